/-
  Walks: what sounds just before a note begins (an iterator).
-/
import Derived.Test.YtigigcbondhmmaaDoorLibA
import Derived.Test.YtigigcbondhmmaaDoorSgL
import Derived.Test.YtigigcbondhmmaaDoorScA
set_option linter.unusedVariables false
namespace Go.Proofs.YtigigcbondhmmaaDoor
open Go.RowKit Go.Sx Go.Sx.Sz Go.Sx.Sc Go.Sx.Sg
attribute [local go_sem] Oper.semAt_some wide_fn wide_depth

def ntC (x : Nt) : Array Value := #[.int .i64 x.v, .int .i64 x.f, .int .i64 x.u, .int .i64 x.x.a, .int .i64 x.x.b, .int .i64 x.x.c, .int .i64 x.x.d, .int .i64 x.x.e, .int .i64 x.x.f, .bool x.tied]
def encIN (s : Sc) (i : Nat) : Array Value := #[.int .i64 i, .agg (ntC (s.N i))]

set_option maxRecDepth 100000 in
set_option maxHeartbeats 4000000 in
theorem snd_iter (b0 b1 : Nat) (vn : Value) (s : Sc) (hok : ScOk s) (n : Nat) (hn : n < s.notes.length) (Need : World → Prop)
    (hN : ∀ W, Need W → W.cell? ⟨b0, 1, none⟩ = some vn ∧ W.cell? ⟨b1, 0, none⟩ = some (.int .i64 n) ∧ Sl W 10 encN vn s.notes) :
    IterC Tryd.prog 62 #[.pointer (some ⟨b0, 0, none⟩), .pointer (some ⟨b1, 0, none⟩)] (encIN s) (sndL s n) Need := by
  intro y J Jx W hJ hJx hNe hY h0
  obtain ⟨c0, c1, S0⟩ := hN _ (hNe _ _ h0)
  obtain ⟨an, cn, rfl, hl1, hl2, hln⟩ := S0.len
  obtain ⟨b, o, rfl, A⟩ := Sl.nt S0 n hn
  rw [← Sc.N_eq hn] at A
  have hfn := (hok.nt.note hn).2.1
  have hun := (hok.nt.note hn).2.2.1
  have h200 := hok.sz.2.1
  obtain ⟨q0, q1, q2, q3, q4, q5, q6, q7, q8, q9⟩ := A
  obtain ⟨f, hf⟩ : ∃ f, (s.N n).f = f := ⟨_, rfl⟩
  rw [hf] at q1 hfn
  have EW : IntKind.i64.wrap (f - 1) = f - 1 := IntWalk.i64_in _ (by omega)
  have i1 : (0 : Int) ≤ (n : Int) := by omega
  have i2 : (n : Int) < (s.notes.length : Int) := by omega
  have i3 : (n : Int) ≤ (cn : Int) := by omega
  have i4 : ¬ cn = 0 := by omega
  clear q0 q2 q3 q4 q5 q6 q7 q8 q9 S0
  refine callsIn_of_wp Tryd.func62 rfl trivial ?_ rfl
  simp only [Tryd.ntmps62, List.size_toArray, List.length_cons, List.length_nil, Nat.reduceAdd, Nat.reduceSub, Array.replicate_succ, Array.replicate_zero, List.push_toArray, List.append_toArray, List.nil_append, List.cons_append]
  gi_wp2
  gi_loopw [21] (fun i wr => ∃ k : Nat, k ≤ n ∧ i = .int .i64 k ∧ J (sndC s n k) wr) (fun i _ => n - (intOf i).toNat)
  case atStart => exact ⟨0, Nat.zero_le _, rfl, h0⟩
  case round =>
    obtain ⟨k, hk, rfl, hJk⟩ := hrel
    by_cases hlt : k < n
    · clear c0 c1 q1
      obtain ⟨c0, c1, S⟩ := hN _ (hNe _ _ hJk)
      obtain ⟨b', o', e', A⟩ := Sl.nt S k (by omega)
      obtain ⟨rfl, rfl⟩ : b = b' ∧ o = o' := by simpa using e'
      rw [← Sc.N_eq (show k < s.notes.length by omega)] at A
      have hC := sndC_succ (s := s) hlt
      have hB : sndB s n k = (decide ((s.N k).f ≤ f - 1) && decide (f - 1 < (s.N k).u)) := by unfold sndB; rw [hf]
      have hY' : sndB s n k = true → YieldAt Fence.wide 0 Tryd.prog y (encIN s k) (wr.alloc (.cells (ntC (s.N k)) 43)) fun e W' => (e = .returned (.bool true) ∧ J (sndC s n k + 1) W') ∨ (e = .returned (.bool false) ∧ Jx W') := fun hb => by
        obtain ⟨h1, h2⟩ := sndC_get (s := s) hlt hb
        have := hY (sndC s n k) (wr.alloc (.cells (ntC (s.N k)) 43)) h1 (hJ _ _ _ hJk (Ext.alloc' _ _))
        rw [h2] at this
        exact this
      have hJn := hJ _ _ _ hJk (Ext.alloc' wr (.cells (ntC (s.N k)) 43))
      obtain ⟨x, hx⟩ : ∃ x, s.N k = x := ⟨_, rfl⟩
      unfold encIN at hY'
      rw [hx] at A hB hY' hJn
      have hb0 := block_new wr (.cells (ntC x) 43)
      unfold ntC at hY' hb0 hJn
      obtain ⟨q0, q1, q2, q3, q4, q5, q6, q7, q8, q9⟩ := A
      have g0 := block_cell hb0 0 _ rfl; have g1 := block_cell hb0 1 _ rfl; have g2 := block_cell hb0 2 _ rfl; have g3 := block_cell hb0 3 _ rfl; have g4 := block_cell hb0 4 _ rfl; have g5 := block_cell hb0 5 _ rfl; have g6 := block_cell hb0 6 _ rfl; have g7 := block_cell hb0 7 _ rfl; have g8 := block_cell hb0 8 _ rfl; have g9 := block_cell hb0 9 _ rfl
      have j1 : (0 : Int) ≤ (k : Int) := by omega
      have j2 : (k : Int) < (s.notes.length : Int) := by omega
      have j3 : (k : Int) < (n : Int) := by omega
      clear hb0 c0 c1 S e' hx hf
      by_cases d1 : x.f ≤ f - 1
      · by_cases d2 : f - 1 < x.u
        · have hb : sndB s n k = true := by rw [hB, decide_eq_true d1, decide_eq_true d2]; rfl
          rw [if_pos hb] at hC
          obtain ⟨fn, tmps, assign, body, hy, hR⟩ := hY' hb
          have HC := Lib.hid hC
          clear hY' hB hb hC
          gi_wp2
          refine hR.mono ?_
          rintro e W3 (⟨rfl, hJ3⟩ | ⟨rfl, hJx3⟩)
          · gi_wp2
            go_roundw
            case rel => exact ⟨k + 1, by omega, by go_num, by rw [HC.out]; exact hJ3⟩
            case measure => simp [intOf] <;> omega
          · gi_wp2
            refine bodyPost_ret (results_none rfl _ _ _) rfl ?_
            exact ⟨⟨_, rfl⟩, .inr hJx3⟩
        · have hb : ¬ sndB s n k = true := by rw [hB, decide_eq_false d2, Bool.and_false]; simp
          rw [if_neg hb] at hC
          have HC := Lib.hid hC
          clear hY' hB hb hC
          gi_wp2
          go_roundw
          case rel => exact ⟨k + 1, by omega, by go_num, by rw [HC.out]; exact hJn⟩
          case measure => simp [intOf] <;> omega
      · have hb : ¬ sndB s n k = true := by rw [hB, decide_eq_false d1, Bool.false_and]; simp
        rw [if_neg hb] at hC
        have HC := Lib.hid hC
        clear hY' hB hb hC
        gi_wp2
        go_roundw
        case rel => exact ⟨k + 1, by omega, by go_num, by rw [HC.out]; exact hJn⟩
        case measure => simp [intOf] <;> omega
    · obtain rfl : k = n := by omega
      gi_wp2
      refine bodyPost_end (results_none rfl _ _ _) rfl ?_
      exact ⟨⟨_, rfl⟩, .inl hJk⟩
end Go.Proofs.YtigigcbondhmmaaDoor
