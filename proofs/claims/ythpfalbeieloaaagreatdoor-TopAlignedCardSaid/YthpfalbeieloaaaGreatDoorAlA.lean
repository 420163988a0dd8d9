/-
  Walks: align.ticks, the price functions, moves.
-/
import Derived.Test.YthpfalbeieloaaaGreatDoorLibM
import Derived.Test.YthpfalbeieloaaaGreatDoorSrt
import Derived.Test.YthpfalbeieloaaaGreatDoorLibB
import Derived.Test.YthpfalbeieloaaaGreatDoorAuC
set_option maxRecDepth 100000
set_option linter.unusedVariables false
namespace Go.Proofs.YthpfalbeieloaaaGreatDoor
open Go.RowKit Go.Sx Go.Sx.Sz Go.Sx.Al

theorem ret_int {k : IntKind} {a b : Int} (h : a = b) : Ending.returned (.int k a) = .returned (.int k b) := by rw [h]
def encD (d : Due) : List Value := [.int .i64 d.t, .int .i64 d.x.a, .int .i64 d.x.b, .int .i64 d.x.c, .int .i64 d.x.d, .int .i64 d.x.e, .int .i64 d.x.f]
def encH (h : Hrd) : List Value := [.int .i64 h.t, .int .i64 h.s.lo, .int .i64 h.s.hi]
def encM (m : Mt) : List Value := [.int .i64 m.d, .int .i64 m.h]

theorem Sl.due {w : World} {a? : Option Addr} {n cap : Nat} {xs : List Due} (h : Sl w 7 encD (.slice a? n cap) xs) (k : Nat) (hk : k < xs.length) :
    ∃ b o, a? = some ⟨b, o, none⟩ ∧ w.cell? ⟨b, o + k * 7, none⟩ = some (.int .i64 xs[k].t) ∧ w.cell? ⟨b, o + k * 7 + 1, none⟩ = some (.int .i64 xs[k].x.a) ∧ w.cell? ⟨b, o + k * 7 + 2, none⟩ = some (.int .i64 xs[k].x.b) ∧ w.cell? ⟨b, o + k * 7 + 3, none⟩ = some (.int .i64 xs[k].x.c) ∧ w.cell? ⟨b, o + k * 7 + 4, none⟩ = some (.int .i64 xs[k].x.d) ∧ w.cell? ⟨b, o + k * 7 + 5, none⟩ = some (.int .i64 xs[k].x.e) ∧ w.cell? ⟨b, o + k * 7 + 6, none⟩ = some (.int .i64 xs[k].x.f) := by
  obtain ⟨b, o, e, hc⟩ := h.at (by omega) k hk
  exact ⟨b, o, e, hc 0 (by omega), hc 1 (by omega), hc 2 (by omega), hc 3 (by omega), hc 4 (by omega), hc 5 (by omega), hc 6 (by omega)⟩
theorem Sl.hrd {w : World} {a? : Option Addr} {n cap : Nat} {xs : List Hrd} (h : Sl w 3 encH (.slice a? n cap) xs) (k : Nat) (hk : k < xs.length) :
    ∃ b o, a? = some ⟨b, o, none⟩ ∧ w.cell? ⟨b, o + k * 3, none⟩ = some (.int .i64 xs[k].t) ∧ w.cell? ⟨b, o + k * 3 + 1, none⟩ = some (.int .i64 xs[k].s.lo) ∧ w.cell? ⟨b, o + k * 3 + 2, none⟩ = some (.int .i64 xs[k].s.hi) := by
  obtain ⟨b, o, e, hc⟩ := h.at (by omega) k hk
  exact ⟨b, o, e, hc 0 (by omega), hc 1 (by omega), hc 2 (by omega)⟩
theorem Sl.mt {w : World} {a? : Option Addr} {n cap : Nat} {xs : List Mt} (h : Sl w 2 encM (.slice a? n cap) xs) (k : Nat) (hk : k < xs.length) :
    ∃ b o, a? = some ⟨b, o, none⟩ ∧ w.cell? ⟨b, o + k * 2, none⟩ = some (.int .i64 xs[k].d) ∧ w.cell? ⟨b, o + k * 2 + 1, none⟩ = some (.int .i64 xs[k].h) := by
  obtain ⟨b, o, e, hc⟩ := h.at (by omega) k hk
  exact ⟨b, o, e, hc 0 (by omega), hc 1 (by omega)⟩

def tickR (l : List Int) : Bool := rise l && l.all tickB

set_option maxHeartbeats 1000000 in
theorem ticks_walk (v : Value) (l : List Int) (w : World) (S : Sl w 1 encZ v l) :
    Calls Tryz.prog 23 #[v] w fun e w' => e = .returned (.bool (tickR l)) ∧ Ext w w' := by
  obtain ⟨a?, cap, rfl, h1, h2, h3⟩ := S.len
  clear h1 h2
  cases hr : rise l with
  | false =>
    have HT : Hid (tickR l = false) := Lib.hid (by rw [tickR, hr]; rfl)
    have HR := Lib.hid hr; clear hr
    go_enter Tryz.func23, Tryz.ntmps23
    go_wp2_with fail
    refine (sorted_walk _ l _ S).mono ?_
    rw [HR.out]
    rintro e w1 ⟨rfl, x1⟩
    go_wp2
    go_ret
    exact ⟨by rw [HT.out] <;> rfl, x1⟩
  | true =>
    rcases Nat.eq_zero_or_pos l.length with h0 | h0
    · obtain rfl := List.length_eq_zero_iff.1 h0
      clear hr h0 h3
      go_enter Tryz.func23, Tryz.ntmps23
      go_wp2_with fail
      refine (sorted_walk _ [] _ S).mono ?_
      rintro e w1 ⟨rfl, x1⟩
      rw [show rise [] = true from rfl]
      go_wp2
      go_ret
      exact ⟨rfl, x1⟩
    · obtain ⟨n, hn⟩ : ∃ n, l.length = n + 1 := ⟨l.length - 1, by omega⟩
      have ht := rise_ticks hr h0
      obtain ⟨b, o, rfl, q0⟩ := Sl.num S 0 h0
      obtain ⟨b', o', e, q1⟩ := Sl.num S (l.length - 1) (by omega)
      obtain ⟨rfl, rfl⟩ : b = b' ∧ o = o' := by cases e; exact ⟨rfl, rfl⟩
      obtain ⟨x, hx⟩ : ∃ x, l[0] = x := ⟨_, rfl⟩
      obtain ⟨y, hy⟩ : ∃ y, l[l.length - 1] = y := ⟨_, rfl⟩
      rw [hx, hy] at ht; rw [hx] at q0; rw [hy] at q1
      rw [Nat.add_zero] at q0
      have e1 : l.length - 1 = n := by omega
      rw [e1] at q1
      have HT : Hid (tickR l = (decide (0 ≤ x) && decide (y ≤ 100000))) := Lib.hid (by rw [tickR, hr, ht]; rfl)
      have HR := Lib.hid hr; have HN := Lib.hid hn
      have i0 : ((l.length : Int) == 0) = false := by rw [beq_eq_false_iff_ne]; omega
      have hl1 : (0 : Int) < (l.length : Int) := by omega
      have HS := Lib.hid S
      rw [hn] at h3 i0 hl1 ⊢
      clear hr e ht hx hy e1 h0 hn S
      go_enter Tryz.func23, Tryz.ntmps23
      go_wp2_with fail
      refine (sorted_walk _ l _ (by rw [← HN.out]; exact HS.out)).mono ?_
      rw [HR.out]
      rintro e w1 ⟨rfl, x1⟩
      have c0 := x1.cell q0
      have c1 := x1.cell q1
      clear q0 q1
      by_cases hx : 0 ≤ x
      · by_cases hy : y ≤ 100000
        · go_wp2
          go_ret
          exact ⟨by rw [HT.out, decide_eq_true hx, decide_eq_true hy]; rfl, x1⟩
        · go_wp2
          go_ret
          exact ⟨by rw [HT.out, decide_eq_true hx, decide_eq_false (by omega)]; rfl, x1⟩
      · go_wp2
        go_ret
        exact ⟨by rw [HT.out, decide_eq_false (by omega)]; rfl, x1⟩
end Go.Proofs.YthpfalbeieloaaaGreatDoor
