/-
  Walks: slices.Backward over pairs.
-/
import Derived.Test.YtdpegkkbhanjkaaDoorPlA
set_option linter.unusedVariables false
namespace Go.Proofs.YtdpegkkbhanjkaaDoor
open Go.RowKit Go.Sx Go.Sx.Sz Go.Sx.Sc Go.Sx.Po
attribute [local go_sem] Oper.semAt_some wide_fn wide_depth

def prC (p : Pr) : Array Value := #[.int .i64 p.a, .int .i64 p.b, .int .i64 p.want.a, .int .i64 p.want.b, .int .i64 p.want.c, .int .i64 p.want.d, .int .i64 p.want.e, .int .i64 p.want.f, .int .i64 p.bound]
def encBP (s : Sc) (m : Nat) : Array Value := #[.int .i64 m, .agg (prC (s.P m))]

set_option maxRecDepth 100000 in
set_option maxHeartbeats 4000000 in
theorem backp_iter (Bs : Nat) (v : Value) (s : Sc) :
    IterC Tryd.prog 77 #[.pointer (some ⟨Bs, 0, none⟩)] (encBP s) (rgL (fun j => s.pairs.length - 1 - j) s.pairs.length) (fun W => W.cell? ⟨Bs, 0, none⟩ = some v ∧ Sl W 9 encP v s.pairs) := by
  intro y J Jx W hJ hJx hN hY h0
  rw [rgL_len] at *
  obtain ⟨hb0, hs0⟩ := hN _ _ h0
  obtain ⟨a?, cap, rfl, h1, h2, h3⟩ := hs0.len
  clear h1 h2 hs0
  refine callsIn_of_wp Tryd.func77 rfl trivial ?_ rfl
  simp only [Tryd.ntmps77, List.size_toArray, List.length_cons, List.length_nil, Nat.reduceAdd, Nat.reduceSub, Array.replicate_succ, Array.replicate_zero, List.push_toArray, List.append_toArray, List.nil_append, List.cons_append]
  gi_wp2
  gi_loopw [3] (fun i wr => ∃ k : Nat, k ≤ s.pairs.length ∧ i = .int .i64 ((s.pairs.length : Int) - 1 - (k : Int)) ∧ J k wr) (fun i _ => (intOf i + 1).toNat)
  case atStart => exact ⟨0, Nat.zero_le _, by simp, h0⟩
  case round =>
    obtain ⟨k, hk, rfl, hJk⟩ := hrel
    obtain ⟨hb, hs⟩ := hN _ _ hJk
    clear hb0
    by_cases hlt : k < s.pairs.length
    · obtain ⟨m, hm⟩ : ∃ m : Nat, m = s.pairs.length - 1 - k := ⟨_, rfl⟩
      have hmi : (s.pairs.length : Int) - 1 - (k : Int) = (m : Int) := by omega
      have hml : m < s.pairs.length := by omega
      obtain ⟨b0, o0, rfl, A⟩ := Sl.pr hs m hml
      rw [← Sc.P_eq hml] at A
      obtain ⟨fn, tmps, assign, body, hy, hR⟩ := hY k wr (by rw [rgL_len]; exact hlt) hJk
      rw [rgL_get, ← hm] at hy
      simp only [encBP, prC] at hy
      obtain ⟨p, hp⟩ : ∃ p, s.P m = p := ⟨_, rfl⟩
      rw [hp] at hy A
      obtain ⟨q0, q1, q2, q3, q4, q5, q6, q7, q8⟩ := A
      rw [hmi]
      have HM := Lib.hid hm
      have j1 : (0 : Int) ≤ (m : Int) := by omega
      have j2 : (m : Int) < (s.pairs.length : Int) := by omega
      clear hs hm hmi hp
      gi_wp2
      refine hR.mono ?_
      rintro e W3 (⟨rfl, hJ3⟩ | ⟨rfl, hJx3⟩)
      · gi_wp2
        go_roundw
        case rel => exact ⟨k + 1, by omega, congrArg (Value.int .i64) (by have := HM.out; omega), hJ3⟩
        case measure => have := HM.out; simp [intOf] <;> omega
      · gi_wp2
        refine bodyPost_ret (results_none rfl _ _ _) rfl ?_
        exact ⟨⟨_, rfl⟩, .inr hJx3⟩
    · obtain rfl : k = s.pairs.length := by omega
      clear hs
      gi_wp2
      refine bodyPost_end (results_none rfl _ _ _) rfl ?_
      exact ⟨⟨_, rfl⟩, .inl hJk⟩

theorem backp_walk (a? : Option Addr) (n c : Nat) (w : World) :
    Calls Tryd.prog 55 #[.slice a? n c] w fun e w' => e = .returned (.func (.func 77) #[] #[.pointer (some ⟨w.heap.size, 0, none⟩)]) ∧ w.alloc (.cells #[.slice a? n c] 23) = w' := by
  go_enter Tryd.func55, Tryd.ntmps55
  go_wp2
  go_ret
  exact ⟨rfl, rfl⟩
end Go.Proofs.YtdpegkkbhanjkaaDoor
