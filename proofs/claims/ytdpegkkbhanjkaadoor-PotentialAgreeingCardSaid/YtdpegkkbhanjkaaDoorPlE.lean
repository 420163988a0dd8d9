/-
  Where voices end: the map of plant, as a function of the key.
-/
import Derived.Test.YtdpegkkbhanjkaaDoorPlA
import Derived.WideKeyPair
import Derived.DeepKeys4
set_option linter.unusedVariables false
namespace Go.Proofs.YtdpegkkbhanjkaaDoor
open Go.RowKit Go.Sx Go.Sx.Sz Go.Sx.Sc Go.Sx.Po Go.WideMaps

theorem laidOut_pl : laidOutB Tryd.prog = true := by kernel_rfl
theorem arr2_pl : ArrKey Tryd.prog 93 3 2 := ⟨Tryd.underlying93, by kernel_rfl, by kernel_rfl, by kernel_rfl⟩
theorem keyed_pl : Maps.Keyed Tryd.prog 93 := Maps.Keyed.of_law (deep_law_laid laidOut_pl (m := 2) (by omega) (of_decide_eq_true (by kernel_rfl)) (by kernel_rfl) (by rw [Tryd.underlying93]))
def klitZ (a c : Int) : Lit := .string (keyBytes [.int .i64 a, .int .i64 c])
def keyOk (a c : Int) : Prop := (-1000000 ≤ a ∧ a ≤ 1000000) ∧ (-1000000 ≤ c ∧ c ≤ 1000000)
theorem keyZ {a c : Int} (h : keyOk a c) : keyOf Tryd.prog 93 (.agg #[.int .i64 a, .int .i64 c]) = some (klitZ a c) := by
  obtain ⟨⟨h1, h2⟩, h3, h4⟩ := h
  exact keyOf_pair arr2_pl Tryd.underlying3 ⟨Tryd.prog.types.size - 1, by kernel_rfl⟩ (WalkArith.wf_i64 (by omega)) (WalkArith.wf_i64 (by omega))
theorem klitZ_ne {a c a' c' : Int} (h : keyOk a c) (h' : keyOk a' c') (hne : ¬ (a = a' ∧ c = c')) : klitZ a c ≠ klitZ a' c' := fun e => by
  have := keyed_pl.inj (keyZ h) ((keyZ h').trans (by rw [e]))
  simp only [Value.agg.injEq, Array.mk.injEq, List.cons.injEq, Value.int.injEq, true_and, and_true] at this
  exact hne this

/-- The map when the first k notes are in it. -/
noncomputable def endS (s : Sc) : Nat → Lit → Option Lit
  | 0 => fun _ => none
  | k + 1 => updL (endS s k) (klitZ (s.N k).v (s.N k).u) (.int .i64 k)
theorem note_key {s : Sc} (h : ScOk s) {k : Nat} (hk : k < s.notes.length) : keyOk (s.N k).v (s.N k).u ∧ keyOk (s.N k).v (s.N k).f := by
  have h1 := h.nt.note hk
  have h2 := h.sz.1
  unfold noteOk at h1
  unfold keyOk
  omega
theorem endS_at {s : Sc} (h : ScOk s) {j : Nat} : ∀ {k : Nat}, j < k → k ≤ s.notes.length → endS s k (klitZ (s.N j).v (s.N j).u) = some (.int .i64 j)
  | 0, hj, _ => absurd hj (by omega)
  | k + 1, hj, hk => by
    unfold endS
    by_cases e : j = k
    · subst e; exact updL_same _ _ _
    · rw [updL_other _ (klitZ_ne (note_key h (k := j) (by omega)).1 (note_key h (k := k) (by omega)).1 fun hc => e (h.ends (i := j) (k := k) (by omega) (by omega) hc.1.symm hc.2.symm))]
      exact endS_at h (by omega) (by omega)
/-- What a tied note finds in the map. -/
theorem endS_tie {s : Sc} (h : ScOk s) {n : Nat} (hn : n < s.notes.length) (ht : (s.N n).tied = true) : ∃ j : Nat, aheadF s n = (j : Int) ∧ endS s s.notes.length (klitZ (s.N n).v (s.N n).f) = some (.int .i64 (j : Int)) := by
  obtain ⟨j, e, hj, hv, hu, -⟩ := ahead_tie h hn ht
  refine ⟨j, e, ?_⟩
  have := endS_at h (j := j) (k := s.notes.length) (by omega) (Nat.le_refl _)
  rw [hv, hu] at this
  exact this
end Go.Proofs.YtdpegkkbhanjkaaDoor
