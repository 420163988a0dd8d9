/-
  Walks: align.moves, align.cells.
-/
import Derived.Test.YthpfalbeieloaaaGreatDoorAlD
import Derived.Test.YthpfalbeieloaaaGreatDoorLibA
set_option maxRecDepth 100000
set_option linter.unusedVariables false
namespace Go.Proofs.YthpfalbeieloaaaGreatDoor
open Go.RowKit Go.Sx Go.Sx.Sz Go.Sx.Al
attribute [local go_sem] Oper.semAt_some wide_fn wide_depth

/-- A step as the program lays it. -/
structure Mv where
  d : Int
  h : Int
  f : Value
def encMv (s : Mv) : List Value := [.int .i64 s.d, .int .i64 s.h, s.f]
def skV (pp : Nat) : Value := .func (.func 48) #[] #[.pointer (some ⟨pp, 0, none⟩)]

theorem Sl.mv {w : World} {a? : Option Addr} {n cap : Nat} {xs : List Mv} (h : Sl w 3 encMv (.slice a? n cap) xs) (k : Nat) (hk : k < xs.length) :
    ∃ b o, a? = some ⟨b, o, none⟩ ∧ w.cell? ⟨b, o + k * 3, none⟩ = some (.int .i64 xs[k].d) ∧ w.cell? ⟨b, o + k * 3 + 1, none⟩ = some (.int .i64 xs[k].h) ∧ w.cell? ⟨b, o + k * 3 + 2, none⟩ = some xs[k].f := by
  obtain ⟨b, o, e, hc⟩ := h.at (by omega) k hk
  exact ⟨b, o, e, hc 0 (by omega), hc 1 (by omega), hc 2 (by omega)⟩

set_option maxHeartbeats 1000000 in
theorem moves_walk (vd vh : Value) (ds : List Due) (hs : List Hrd) (p : Prc) (hv : AlOk ds hs p) (w : World) (G : Gl 1 w) (Sd : Sl w 7 encD vd ds) (Sh : Sl w 3 encH vh hs) :
    Calls Tryz.prog 24 #[vd, vh, .agg #[.int .i64 p.skip, .int .i64 p.off]] w fun e w' => ∃ v pd ph ps pq pp, e = .returned v ∧ Sl w' 3 encMv v [⟨1, 1, prV pd ph ps pq⟩, ⟨1, 0, skV pp⟩, ⟨0, 1, skV pp⟩] ∧ PrC pd ph ps pq ds hs p w' ∧ w'.cell? ⟨pp, 0, none⟩ = some (.int .i64 p.skip) ∧ Ext w w' := by
  obtain ⟨ad, cd, rfl, -, -, -⟩ := Sd.len
  obtain ⟨ah, ch, rfl, -, -, -⟩ := Sh.len
  go_enter Tryz.func24, Tryz.ntmps24
  go_wp2_with fail
  refine (prices_walk _ _ ds hs p hv _ (G.ext (by repeat (first | with_reducible exact Ext.refl _ | with_reducible assumption | with_reducible apply Ext.alloc | with_reducible apply Ext.drew | (with_reducible refine Ext.setCell ?_ (by (try simp) <;> omega) _)))) (Sd.ext (by repeat (first | with_reducible exact Ext.refl _ | with_reducible assumption | with_reducible apply Ext.alloc | with_reducible apply Ext.drew | (with_reducible refine Ext.setCell ?_ (by (try simp) <;> omega) _)))) (Sh.ext (by repeat (first | with_reducible exact Ext.refl _ | with_reducible assumption | with_reducible apply Ext.alloc | with_reducible apply Ext.drew | (with_reducible refine Ext.setCell ?_ (by (try simp) <;> omega) _))))).mono ?_
  rintro e w1 ⟨pd, ph, ps, pq, rfl, C1, x1⟩
  have c0 := x1.cell (alloc_cell w #[.int .i64 p.skip, .int .i64 p.off] 30 0 _ rfl)
  have y1 : Ext w w1 := Ext.trans (by repeat (first | with_reducible exact Ext.refl _ | with_reducible assumption | with_reducible apply Ext.alloc | with_reducible apply Ext.drew | (with_reducible refine Ext.setCell ?_ (by (try simp) <;> omega) _))) x1
  rw [prV]
  clear x1
  have S3 := (Bk.mk (xs := [⟨1, 1, prV pd ph ps pq⟩, ⟨1, 0, skV w.heap.size⟩, ⟨0, 1, skV w.heap.size⟩]) (enc := encMv) w1 98 #[.int .i64 1, .int .i64 1, prV pd ph ps pq, .int .i64 1, .int .i64 0, skV w.heap.size, .int .i64 0, .int .i64 1, skV w.heap.size] rfl).sl (sz := 3) (fun _ _ => rfl) (n := 3) rfl (by simp)
  have y2 := Ext.alloc' w1 (.cells #[.int .i64 1, .int .i64 1, prV pd ph ps pq, .int .i64 1, .int .i64 0, skV w.heap.size, .int .i64 0, .int .i64 1, skV w.heap.size] 98)
  have HS := Lib.hid S3; have HY := Lib.hid y2
  have C2 := C1.ext y2
  have c2 := y2.cell c0
  have HC := Lib.hid c2
  clear S3 y2 c2 C1 c0
  go_wp2
  go_ret
  exact ⟨_, pd, ph, ps, pq, w.heap.size, rfl, HS.out, C2, HC.out, y1.trans HY.out⟩

/-- The cells of a table, the last ones first. -/
def cellsL (n m : Nat) : List (Nat × Nat) := (List.range ((n + 1) * (m + 1))).map fun k => (n - k / (m + 1), m - k % (m + 1))
theorem cellsL_len (n m : Nat) : (cellsL n m).length = (n + 1) * (m + 1) := by simp [cellsL]
theorem cellsL_get (n m k : Nat) (h : k < (cellsL n m).length) : (cellsL n m)[k] = (n - k / (m + 1), m - k % (m + 1)) := by simp [cellsL]
def encC (c : Nat × Nat) : Array Value := #[.int .i64 c.1, .int .i64 c.2]

set_option maxHeartbeats 400000 in
theorem cells_walk (n m : Nat) (w : World) :
    Calls Tryz.prog 25 #[.int .i64 n, .int .i64 m] w fun e w' => e = .returned (.func (.func 50) #[] #[.pointer (some ⟨w.heap.size, 0, none⟩), .pointer (some ⟨w.heap.size + 1, 0, none⟩)]) ∧ (w.alloc (.cells #[.int .i64 n] 3)).alloc (.cells #[.int .i64 m] 3) = w' := by
  go_enter Tryz.func25, Tryz.ntmps25
  go_wp2
  go_ret
  exact ⟨rfl, rfl⟩

set_option maxRecDepth 100000 in
set_option maxHeartbeats 1000000 in
theorem cells_iter (b1 b2 n m : Nat) (hn : n ≤ 100) (hm : m ≤ 100) :
    IterC Tryz.prog 50 #[.pointer (some ⟨b1, 0, none⟩), .pointer (some ⟨b2, 0, none⟩)] encC (cellsL n m) (fun W => W.cell? ⟨b1, 0, none⟩ = some (.int .i64 n) ∧ W.cell? ⟨b2, 0, none⟩ = some (.int .i64 m)) := by
  intro y J Jx W hJ hJx hN hY h0
  obtain ⟨hb0, hs0⟩ := hN _ _ h0
  refine callsIn_of_wp Tryz.func50 rfl trivial ?_ rfl
  simp only [Tryz.ntmps50, List.size_toArray, List.length_cons, List.length_nil, Nat.reduceAdd, Nat.reduceSub, Array.replicate_succ, Array.replicate_zero, List.push_toArray, List.append_toArray, List.nil_append, List.cons_append]
  gi_wp2
  gi_loopw [4] (fun i wr => ∃ k : Nat, k ≤ n + 1 ∧ i = .int .i64 ((n : Int) - (k : Int)) ∧ J (k * (m + 1)) wr) (fun i _ => (intOf i + 1).toNat)
  case atStart => exact ⟨0, Nat.zero_le _, by simp, by simpa using h0⟩
  case round =>
    obtain ⟨k, hk, rfl, hJk⟩ := hrel
    obtain ⟨hb, hs⟩ := hN _ _ hJk
    clear hb0 hs0
    by_cases hlt : k ≤ n
    · obtain ⟨a, ha⟩ : ∃ a : Nat, a = n - k := ⟨_, rfl⟩
      have hai : (n : Int) - (k : Int) = (a : Int) := by omega
      rw [hai]
      have hab : (a : Int) ≤ 100 := by omega
      have HA := Lib.hid ha
      have HAI := Lib.hid hai
      clear ha hai
      obtain ⟨wo, rfl⟩ : ∃ wo : World, wo = wr := ⟨_, rfl⟩
      gi_wp2
      gi_loopw [5] (fun i wr => ∃ j : Nat, j ≤ m + 1 ∧ i = .int .i64 ((m : Int) - (j : Int)) ∧ J (k * (m + 1) + j) wr) (fun i _ => (intOf i + 1).toNat)
      case atStart => exact ⟨0, Nat.zero_le _, by simp, hJk⟩
      case round =>
        obtain ⟨j, hj, rfl, hJj⟩ := hrel
        clear hb hs
        obtain ⟨hb, hs⟩ := hN _ _ hJj
        by_cases hlj : j ≤ m
        · obtain ⟨c, hc⟩ : ∃ c : Nat, c = m - j := ⟨_, rfl⟩
          have hci : (m : Int) - (j : Int) = (c : Int) := by omega
          have hcb : (c : Int) ≤ 100 := by omega
          have hidx : k * (m + 1) + j < (cellsL n m).length := by
            rw [cellsL_len]
            have : (k + 1) * (m + 1) ≤ (n + 1) * (m + 1) := Nat.mul_le_mul_right _ (by omega)
            have e : (k + 1) * (m + 1) = k * (m + 1) + (m + 1) := Nat.succ_mul _ _
            omega
          obtain ⟨fn, tmps, assign, body, hy, hR⟩ := hY _ wr hidx hJj
          have hget : (cellsL n m)[k * (m + 1) + j] = (a, c) := by
            rw [cellsL_get, Nat.mul_comm k, Nat.mul_add_div (by omega), Nat.mul_add_mod, Nat.div_eq_of_lt (by omega), Nat.mod_eq_of_lt (by omega), Nat.add_zero, ← HA.out, hc]
          rw [hget] at hy
          simp only [encC] at hy
          rw [hci]
          have HC := Lib.hid hci
          clear hc hci hget hidx
          gi_wp2
          refine hR.mono ?_
          rintro e W3 (⟨rfl, hJ3⟩ | ⟨rfl, hJx3⟩)
          · gi_wp2
            go_roundw
            case rel => exact ⟨j + 1, by omega, congrArg (Value.int .i64) (by have := HC.out; omega), by rw [← Nat.add_assoc]; exact hJ3⟩
            case measure => have := HC.out; simp [intOf] <;> omega
          · gi_wp2
            refine bodyPost_ret (results_none rfl _ _ _) rfl ?_
            exact ⟨⟨_, rfl⟩, .inr hJx3⟩
        · obtain rfl : j = m + 1 := by omega
          have e1 : (m : Int) - ((m + 1 : Nat) : Int) = -1 := by omega
          rw [e1]
          clear e1
          gi_wp2
          go_roundw
          case rel => exact ⟨k + 1, by omega, congrArg (Value.int .i64) (by have := HAI.out; omega), by rw [Nat.succ_mul]; exact hJj⟩
          case measure => have := HAI.out; simp [intOf] <;> omega
    · obtain rfl : k = n + 1 := by omega
      have e1 : (n : Int) - ((n + 1 : Nat) : Int) = -1 := by omega
      rw [e1]
      clear e1
      gi_wp2
      refine bodyPost_end (results_none rfl _ _ _) rfl ?_
      exact ⟨⟨_, rfl⟩, .inl (by rw [cellsL_len]; exact hJk)⟩
end Go.Proofs.YthpfalbeieloaaaGreatDoor
