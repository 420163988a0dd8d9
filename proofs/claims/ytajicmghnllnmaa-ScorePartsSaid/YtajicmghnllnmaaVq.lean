/-
  How two intervals, and two notes, compare.
-/
import Derived.Test.YtajicmghnllnmaaSzL
import Derived.ChangeKeysEq
namespace Go.Sx.Sz
open Go.RowKit

theorem run_eqZ {P : Program} {e : TypeId} (he : P.underlying e = some (.int .i64)) (d : Nat) (x y : Int) (w : World) : (Op.equalIn (d + 1) e (.int .i64 x) (.int .i64 y)).run P w = .ok (x == y) w := by
  simp [Op.equalIn, run_underlying he]
theorem run_eq_v6 {P : Program} {t e : TypeId} (hu : P.underlying t = some (.array 6 e)) (he : P.underlying e = some (.int .i64)) (hs : (P.info? e).map (·.size) = some 1) (a b : V6) (d : Nat) (w : World) :
    (Op.equalIn (d + 2) t (.agg #[.int .i64 a.a, .int .i64 a.b, .int .i64 a.c, .int .i64 a.d, .int .i64 a.e, .int .i64 a.f]) (.agg #[.int .i64 b.a, .int .i64 b.b, .int .i64 b.c, .int .i64 b.d, .int .i64 b.e, .int .i64 b.f])).run P w = .ok (decide (a = b)) w := by
  obtain ⟨i, hi, hsz⟩ : ∃ i, P.info? e = some i ∧ i.size = 1 := by
    cases h : P.info? e with
    | none => rw [h] at hs; cases hs
    | some i => rw [h] at hs; exact ⟨i, rfl, by simpa using hs⟩
  have hc : P.cellsOf e = 1 := by simp [Program.cellsOf, hi, hsz]
  have hp : ∀ (xs : Array Value) (o : Nat) (v : Value) (u : World), xs[o]? = some v → (part e xs o).run P u = .ok v u := fun xs o v u h => by
    simp [part, sizeOf, typeInfo, hi, hsz, isAgg, run_underlying he, h]
  rw [run_equalIn_array w (d + 1) _ _ hu hi, hc, show List.range 6 = [0, 1, 2, 3, 4, 5] from rfl]
  have p0 := fun (v : V6) => hp #[.int .i64 v.a, .int .i64 v.b, .int .i64 v.c, .int .i64 v.d, .int .i64 v.e, .int .i64 v.f] 0 (.int .i64 v.a) w rfl
  have p1 := fun (v : V6) => hp #[.int .i64 v.a, .int .i64 v.b, .int .i64 v.c, .int .i64 v.d, .int .i64 v.e, .int .i64 v.f] 1 (.int .i64 v.b) w rfl
  have p2 := fun (v : V6) => hp #[.int .i64 v.a, .int .i64 v.b, .int .i64 v.c, .int .i64 v.d, .int .i64 v.e, .int .i64 v.f] 2 (.int .i64 v.c) w rfl
  have p3 := fun (v : V6) => hp #[.int .i64 v.a, .int .i64 v.b, .int .i64 v.c, .int .i64 v.d, .int .i64 v.e, .int .i64 v.f] 3 (.int .i64 v.d) w rfl
  have p4 := fun (v : V6) => hp #[.int .i64 v.a, .int .i64 v.b, .int .i64 v.c, .int .i64 v.d, .int .i64 v.e, .int .i64 v.f] 4 (.int .i64 v.e) w rfl
  have p5 := fun (v : V6) => hp #[.int .i64 v.a, .int .i64 v.b, .int .i64 v.c, .int .i64 v.d, .int .i64 v.e, .int .i64 v.f] 5 (.int .i64 v.f) w rfl
  have hd : decide (a = b) = ((a.a == b.a) && (a.b == b.b) && (a.c == b.c) && (a.d == b.d) && (a.e == b.e) && (a.f == b.f)) := by
    by_cases h : a = b
    · subst h; simp
    · rw [decide_eq_false h]
      symm
      rw [Bool.eq_false_iff]
      intro hh
      simp only [Bool.and_eq_true, beq_iff_eq] at hh
      apply h
      cases a; cases b
      simp only at hh
      obtain ⟨⟨⟨⟨⟨rfl, rfl⟩, rfl⟩, rfl⟩, rfl⟩, rfl⟩ := hh
      rfl
  rw [hd]
  simp only [Op.eqItems, Sem.run_bind, Nat.mul_one, p0, p1, p2, p3, p4, p5, Result.andThen_ok, run_eqZ he, Sem.run_ite, Sem.run_pure]
  cases a.a == b.a <;> cases a.b == b.b <;> cases a.c == b.c <;> cases a.d == b.d <;> cases a.e == b.e <;> cases a.f == b.f <;> rfl
end Go.Sx.Sz
