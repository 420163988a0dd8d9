/-
  Walks of chain: slices.Values of edges, from; how a graph reads.
-/
import Derived.Test.YtgfaiihekibcbaaGreatDoorGpC
set_option maxRecDepth 100000
set_option linter.unusedVariables false
namespace Go.Proofs.YtgfaiihekibcbaaGreatDoor
open Go.RowKit Go.Sx Go.Sx.Sz Go.Sx.Sc Go.Sx.Po Go.Sx.Ch
attribute [local go_sem] Oper.semAt_some wide_fn wide_depth

/-- How a graph reads. -/
def GrR (w : World) (v : Value) (N : Nat) (rows : Nat → List Ed) : Prop := ∃ vs : List Value, Sl w 1 (fun x => [x]) v vs ∧ vs.length = N ∧ ∀ i (h : i < vs.length), Sl w 9 encE vs[i] (rows i)
theorem GrR.ext {w w' : World} {v : Value} {N : Nat} {rows : Nat → List Ed} (h : GrR w v N rows) (x : Ext w w') : GrR w' v N rows := by
  obtain ⟨vs, a, b, c⟩ := h
  exact ⟨vs, a.ext x, b, fun i hi => (c i hi).ext x⟩
theorem GrR.len {w : World} {v : Value} {N : Nat} {rows : Nat → List Ed} (h : GrR w v N rows) : ∃ a? cap, v = .slice a? N cap ∧ N ≤ 140737488351232 := by
  obtain ⟨vs, a, b, c⟩ := h
  obtain ⟨a?, cap, rfl, _, _, h3⟩ := a.len
  exact ⟨a?, cap, by rw [b], by omega⟩
theorem GrR.at {w : World} {a? : Option Addr} {n cap N : Nat} {rows : Nat → List Ed} (h : GrR w (.slice a? n cap) N rows) (k : Nat) (hk : k < N) :
    ∃ b o a1 c1, a? = some ⟨b, o, none⟩ ∧ w.cell? ⟨b, o + k, none⟩ = some (.slice a1 (rows k).length c1) ∧ Sl w 9 encE (.slice a1 (rows k).length c1) (rows k) := by
  obtain ⟨vs, a, hb, c⟩ := h
  obtain ⟨b, o, e, hc⟩ := a.at1 k (by omega)
  have hs := c k (by omega)
  obtain ⟨a1, c1, e1, -⟩ := hs.len
  refine ⟨b, o, a1, c1, e, ?_, e1 ▸ hs⟩
  rw [hc]
  show some vs[k] = _
  rw [e1]
theorem Sl.ed {w : World} {a? : Option Addr} {n cap : Nat} {xs : List Ed} (h : Sl w 9 encE (.slice a? n cap) xs) (k : Nat) (hk : k < xs.length) : ∃ b o, a? = some ⟨b, o, none⟩ ∧
    w.cell? ⟨b, o + k * 9, none⟩ = some (.int .i64 xs[k].f) ∧ w.cell? ⟨b, o + k * 9 + 1, none⟩ = some (.int .i64 xs[k].t) ∧ w.cell? ⟨b, o + k * 9 + 2, none⟩ = some (.int .i64 xs[k].k) ∧ w.cell? ⟨b, o + k * 9 + 3, none⟩ = some (.int .i64 xs[k].v.a) ∧ w.cell? ⟨b, o + k * 9 + 4, none⟩ = some (.int .i64 xs[k].v.b) ∧ w.cell? ⟨b, o + k * 9 + 5, none⟩ = some (.int .i64 xs[k].v.c) ∧ w.cell? ⟨b, o + k * 9 + 6, none⟩ = some (.int .i64 xs[k].v.d) ∧ w.cell? ⟨b, o + k * 9 + 7, none⟩ = some (.int .i64 xs[k].v.e) ∧ w.cell? ⟨b, o + k * 9 + 8, none⟩ = some (.int .i64 xs[k].v.f) := by
  obtain ⟨b, o, e, hc⟩ := h.at (by omega) k hk
  exact ⟨b, o, e, hc 0 (by omega), hc 1 (by omega), hc 2 (by omega), hc 3 (by omega), hc 4 (by omega), hc 5 (by omega), hc 6 (by omega), hc 7 (by omega), hc 8 (by omega)⟩
def edC (e : Ed) : Array Value := #[.int .i64 e.f, .int .i64 e.t, .int .i64 e.k, .int .i64 e.v.a, .int .i64 e.v.b, .int .i64 e.v.c, .int .i64 e.v.d, .int .i64 e.v.e, .int .i64 e.v.f]
def encVE (e : Ed) : Array Value := #[.agg (edC e)]

set_option maxHeartbeats 4000000 in
theorem values_iter (Bs : Nat) (v : Value) (l : List Ed) :
    IterC Tryz.prog 94 #[.pointer (some ⟨Bs, 0, none⟩)] encVE l (fun W => W.cell? ⟨Bs, 0, none⟩ = some v ∧ Sl W 9 encE v l) := by
  intro y J Jx W hJ hJx hN hY h0
  obtain ⟨hb0, hs0⟩ := hN _ _ h0
  obtain ⟨a?, cap, rfl, h1, h2, h3⟩ := hs0.len
  clear h1 h2 hs0
  refine callsIn_of_wp Tryz.func94 rfl trivial ?_ rfl
  simp only [Tryz.ntmps94, List.size_toArray, List.length_cons, List.length_nil, Nat.reduceAdd, Nat.reduceSub, Array.replicate_succ, Array.replicate_zero, List.push_toArray, List.append_toArray, List.nil_append, List.cons_append]
  gi_wp2
  gi_loopw [7] (fun i wr => ∃ k : Nat, k ≤ l.length ∧ i = .int .i64 k ∧ J k wr) (fun i _ => l.length - (intOf i).toNat)
  case atStart => exact ⟨0, Nat.zero_le _, rfl, h0⟩
  case round =>
    obtain ⟨k, hk, rfl, hJk⟩ := hrel
    obtain ⟨hb, hs⟩ := hN _ _ hJk
    clear hb0
    by_cases hlt : k < l.length
    · obtain ⟨b0, o0, rfl, q0, q1, q2, q3, q4, q5, q6, q7, q8⟩ := Sl.ed hs k hlt
      obtain ⟨p, hp⟩ : ∃ p, l[k] = p := ⟨_, rfl⟩
      have HYY := Lib.hid fun w' (x : Ext wr w') => hY k w' hlt (hJ _ _ _ hJk x)
      rw [hp] at q0 q1 q2 q3 q4 q5 q6 q7 q8 HYY
      have xa := Ext.alloc' wr (.cells (edC p) 76)
      obtain ⟨fn, tmps, assign, body, hy, hR⟩ := HYY.out _ xa
      simp only [encVE, edC] at hy
      have j1 : (0 : Int) ≤ (k : Int) := by omega
      have j2 : (k : Int) < (l.length : Int) := by omega
      clear hs hp HYY xa
      gi_wp2
      refine hR.mono ?_
      rintro e W3 (⟨rfl, hJ3⟩ | ⟨rfl, hJx3⟩)
      · gi_wp2
        go_roundw
        case rel => exact ⟨k + 1, by omega, by go_num, hJ3⟩
        case measure => simp [intOf] <;> omega
      · gi_wp2
        refine bodyPost_ret (results_none rfl _ _ _) rfl ?_
        exact ⟨⟨_, rfl⟩, .inr hJx3⟩
    · obtain rfl : k = l.length := by omega
      clear hs
      gi_wp2
      refine bodyPost_end (results_none rfl _ _ _) rfl ?_
      exact ⟨⟨_, rfl⟩, .inl hJk⟩

theorem from_walk (vg : Value) (N n : Nat) (rows : Nat → List Ed) (hn : n < N) (w0 w : World) (G : GrR w0 vg N rows) (X : Ext w0 w) :
    Calls Tryz.prog 43 #[vg, .int .i64 n] w fun e w' => e = .returned (.func (.func 94) #[] #[.pointer (some ⟨w.heap.size, 0, none⟩)]) ∧ ∃ v, Sl w0 9 encE v (rows n) ∧ w.alloc (.cells #[v] 74) = w' := by
  obtain ⟨a?, cap, rfl, hN⟩ := G.len
  obtain ⟨b, o, a1, c1, rfl, hc, hs⟩ := G.at n hn
  replace hc := X.cell hc
  have i1 : (0 : Int) ≤ (n : Int) := by omega
  have i2 : (n : Int) < (N : Int) := by omega
  have VW : ∀ w, Calls Tryz.prog 72 #[.slice a1 (rows n).length c1] w fun e w' => e = .returned (.func (.func 94) #[] #[.pointer (some ⟨w.heap.size, 0, none⟩)]) ∧ w.alloc (.cells #[.slice a1 (rows n).length c1] 74) = w' := by
    intro w
    go_enter Tryz.func72, Tryz.ntmps72
    go_wp2
    go_ret
    exact ⟨rfl, rfl⟩
  have HV := Lib.hid VW
  have HS := Lib.hid hs
  clear VW hs G hn
  go_enter Tryz.func43, Tryz.ntmps43
  go_wp2_with fail
  refine (HV.out _).mono ?_
  rintro e w1 ⟨rfl, rfl⟩
  go_wp2
  go_ret
  exact ⟨rfl, _, HS.out, rfl⟩
end Go.Proofs.YtgfaiihekibcbaaGreatDoor
