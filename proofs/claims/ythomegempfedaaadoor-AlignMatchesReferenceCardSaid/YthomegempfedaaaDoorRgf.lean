/-
  A range over a function whose rounds may also write a map that was made ahead of it; the second law of drawn regions, in a round.
-/
import Derived.Test.YthomegempfedaaaDoorRg
import Derived.Test.YthomegempfedaaaDoorDx
import Derived.RangeFuncWrites
namespace Go.Sx
open Go.RowKit

variable {P : Program}

/-- How the body of a round may be left. -/
def postF (B : Nat) (I : Nat → World → Prop) (Ix : Code → World → Prop) (k : Nat) (W : World) : Exit → Act → World → Prop
  | .normal, _, W' => KeepsFrom B W W' ∧ I (k + 1) W'
  | .ret, _, W' => KeepsFrom B W W' ∧ Ix .ret W'
  | .exit id, _, W' => KeepsFrom B W W' ∧ Ix (.exit id) W'
  | .goto t, _, W' => KeepsFrom B W W' ∧ Ix (.goto t) W'
  | .panic _, _, _ => False
  | .outgrown, _, _ => False

theorem wpIn_rangeF {α : Type} {g : Operand} {ps : Array Tmp} {assign body : Code} {Q : Exit → Act → World → Prop} {a : Act} {w : World} {gf : Nat} {lb : Array Value} {encs : α → Array Value} {xs : List α} {Need : World → Prop}
    (hg : a.eval g = .func (.func gf) #[] lb) (eg : ∀ args w, (callFunc gf args).run P w = .ok (.enter gf args) w) (hit : IterC P gf lb encs xs Need) (hps : ∀ x, (encs x).size = ps.size)
    (I : Nat → World → Prop) (Ix : Code → World → Prop) (hI : ∀ k, Abide w.heap.size (I k)) (hIx : ∀ c, Abide w.heap.size (Ix c)) (hN : ∀ k W, I k W → Need W) (h0 : I 0 w)
    (hround : ∀ l k W (hk : k < xs.length), I k W → w.heap.size ≤ l → l < W.heap.size →
      assign.wpIn (Fence.wide.inRound l) 0 P (Exit.then (fun a1 W1 => KeepsFrom w.heap.size W W1 ∧ ∀ W2, Same l W1 W2 → body.wpIn (Fence.wide.inRound l) 0 P (postF w.heap.size I Ix k W2) a1 W2) (fun _ _ _ => False))
        { tmps := (ps.zip (encs xs[k])).foldl (fun t (p, v) => t.setIfInBounds p v) a.tmps, defers := [] } W)
    (hdone : ∀ D W, w.heap.size ≤ D → I xs.length W → W.heap[D]? = some (.deferred (some [])) → Q .normal { a with defers := { target := .collected D, args := #[] } :: a.defers } W)
    (hstop : ∀ D c W, w.heap.size ≤ D → Ix c W → W.heap[D]? = some (.deferred (some [])) → c.wpIn Fence.wide 0 P Q { a with defers := { target := .collected D, args := #[] } :: a.defers } W) :
    (Code.rangeFunc g ps assign body).wpIn Fence.wide 0 P Q a w := by
  refine wpIn_rangeFunc ?_
  intro fn hfn
  obtain ⟨rec, hrec⟩ : ∃ rec : LoopState → Option Code → Loop, rec = fun st pe => { state := st, pending := pe, fn, tmps := a.tmps, params := ps, assign, body, defers := w.heap.size } := ⟨_, rfl⟩
  obtain ⟨W1, hW1⟩ : ∃ W1, (w.alloc (.deferred (some []))).alloc (.loop (rec .ready none)) = W1 := ⟨_, rfl⟩
  have hL1 : W1.heap[w.heap.size + 1]? = some (.loop (rec .ready none)) := by
    rw [← hW1]; have := World.alloc_heap_new (w.alloc (.deferred (some []))) (.loop (rec .ready none)); rwa [World.size_alloc] at this
  have hK1 : W1.heap[w.heap.size]? = some (.deferred (some [])) := by
    rw [← hW1]; exact (Below.heap_alloc _ _ _ (by simp)).trans (World.alloc_heap_new w _)
  have hx1 : Ext w W1 := by rw [← hW1]; exact ((Ext.refl w).alloc _).alloc _
  have hI1 : I 0 W1 := (hI 0).ext _ _ h0 hx1
  have samePut : ∀ {A : World} {r : Loop} (r' : Loop), A.heap[w.heap.size + 1]? = some (.loop r) → Same (w.heap.size + 1) A (A.putObj (w.heap.size + 1) (.loop r')) :=
    fun r' h => ⟨_, _, h, rfl, rfl, rfl⟩
  refine ⟨w.heap.size + 1, [{ target := .collected w.heap.size, args := #[] }], W1, { target := .fn (.func gf) lb, args := #[.func (.yield (w.heap.size + 1)) #[] #[]] }, W1, gf,
    #[.func (.yield (w.heap.size + 1)) #[] #[]] ++ lb, W1, ?_, ?_, fun _ _ => trivial, ?_, fun h => absurd h (by simp [Fence.wide]), ?_⟩
  · rw [← hW1, hrec]; exact run_enterLoop_outer _ _ _ _ _
  · simp only [resolve, hg]
    simp [go_sem]
  · simp [invoke, go_sem, eg]
  · refine (hit (w.heap.size + 1)
      (fun k W => I k W ∧ W.heap[w.heap.size + 1]? = some (.loop (rec .ready none)) ∧ W.heap[w.heap.size]? = some (.deferred (some [])))
      (fun W => ∃ c, Ix c W ∧ W.heap[w.heap.size + 1]? = some (.loop (rec .done (some c))) ∧ W.heap[w.heap.size]? = some (.deferred (some [])))
      W1
      (fun k W W' ⟨h1, h2, h3⟩ hx => ⟨(hI k).ext _ _ h1 hx, (hx.block _ (Array.getElem?_eq_some_iff.1 h2).1).trans h2, (hx.block _ (Array.getElem?_eq_some_iff.1 h3).1).trans h3⟩)
      (fun W W' ⟨c, h1, h2, h3⟩ hx => ⟨c, (hIx c).ext _ _ h1 hx, (hx.block _ (Array.getElem?_eq_some_iff.1 h2).1).trans h2, (hx.block _ (Array.getElem?_eq_some_iff.1 h3).1).trans h3⟩)
      (fun k W h => hN k W h.1)
      ?_ ⟨hI1, hL1, hK1⟩).mono ?_
    · rintro k W hk ⟨hi, hl, hkd⟩
      have hlt : w.heap.size + 1 < W.heap.size := (Array.getElem?_eq_some_iff.1 hl).1
      have hy := run_yield (P := P) (args := encs xs[k]) hl (by rw [hrec]; exact hps _)
      rw [hrec] at hy
      refine ⟨fn, _, assign, body, hy, roundIn_of_wpIn hfn (wpIn_mono (hround _ k W hk hi (by omega) hlt) ?_)⟩
      rintro e a1 W2 hp
      cases e with
      | normal =>
        obtain ⟨hk1, hb⟩ := hp
        have hl1 := hk1.same _ _ (by omega) hl rfl
        have hd1 := hk1.same _ _ (by omega) hkd rfl
        have hlt1 := (Array.getElem?_eq_some_iff.1 hl1).1
        refine ⟨_, run_beginRound hl1 (by rw [hrec]), ?_⟩
        have hl2 : (W2.putObj (w.heap.size + 1) (.loop { rec .ready none with state := .busy })).heap[w.heap.size + 1]? = some (.loop { rec .ready none with state := .busy }) := World.putObj_heap_same hlt1
        have hd2 : (W2.putObj (w.heap.size + 1) (.loop { rec .ready none with state := .busy })).heap[w.heap.size]? = some (.deferred (some [])) := (World.putObj_heap_other (by omega)).trans hd1
        refine wpIn_mono (hb _ (samePut _ hl1)) ?_
        have fin : ∀ (jump : Option Code) (W3 : World), KeepsFrom w.heap.size (W2.putObj (w.heap.size + 1) (.loop { rec .ready none with state := .busy })) W3 →
            (Instr.endRound (w.heap.size + 1) jump).run P W3 = .ok (.bool jump.isNone) (W3.putObj (w.heap.size + 1) (.loop (rec (if jump.isNone then .ready else .done) jump))) ∧
            W3.heap[w.heap.size + 1]? = some (.loop { rec .ready none with state := .busy }) ∧
            (W3.putObj (w.heap.size + 1) (.loop (rec (if jump.isNone then .ready else .done) jump))).heap[w.heap.size + 1]? = some (.loop (rec (if jump.isNone then .ready else .done) jump)) ∧
            (W3.putObj (w.heap.size + 1) (.loop (rec (if jump.isNone then .ready else .done) jump))).heap[w.heap.size]? = some (.deferred (some [])) := fun jump W3 hk3 => by
          have hl3 := hk3.same _ _ (by omega) hl2 rfl
          have := run_endRound (P := P) jump hl3
          rw [hrec] at this ⊢
          exact ⟨this, by rw [hrec] at hl3; exact hl3, World.putObj_heap_same (Array.getElem?_eq_some_iff.1 hl3).1, (World.putObj_heap_other (by omega)).trans (hk3.same _ _ (by omega) hd2 rfl)⟩
        rintro e a3 W3 hp
        cases e with
        | normal =>
          obtain ⟨hk3, hi3⟩ := hp
          obtain ⟨hr, hl3, hl4, hk4⟩ := fin none W3 hk3
          exact ⟨_, _, hr, .inl ⟨rfl, (hI _).put _ _ _ hi3 (by omega) (samePut _ hl3), hl4, hk4⟩⟩
        | ret =>
          obtain ⟨hk3, hi3⟩ := hp
          obtain ⟨hr, hl3, hl4, hk4⟩ := fin (some .ret) W3 hk3
          exact ⟨_, _, hr, .inr ⟨rfl, .ret, (hIx _).put _ _ _ hi3 (by omega) (samePut _ hl3), hl4, hk4⟩⟩
        | exit id =>
          obtain ⟨hk3, hi3⟩ := hp
          obtain ⟨hr, hl3, hl4, hk4⟩ := fin (some (.exit id)) W3 hk3
          exact ⟨_, _, hr, .inr ⟨rfl, .exit id, (hIx _).put _ _ _ hi3 (by omega) (samePut _ hl3), hl4, hk4⟩⟩
        | goto t =>
          obtain ⟨hk3, hi3⟩ := hp
          obtain ⟨hr, hl3, hl4, hk4⟩ := fin (some (.goto t)) W3 hk3
          exact ⟨_, _, hr, .inr ⟨rfl, .goto t, (hIx _).put _ _ _ hi3 (by omega) (samePut _ hl3), hl4, hk4⟩⟩
        | panic ch => exact hp.elim
        | outgrown => exact hp.elim
      | ret => exact hp.elim
      | exit id => exact hp.elim
      | goto t => exact hp.elim
      | panic ch => exact hp.elim
      | outgrown => exact hp.elim
    · rintro e W2 ⟨⟨v, rfl⟩, (⟨hi, hl, hk⟩ | ⟨c, hi, hl, hk⟩)⟩
      · exact ⟨none, _, by have := run_endLoop (P := P) hl (by rw [hrec]; simp); rw [hrec] at this; exact this, hdone _ _ (Nat.le_refl _) ((hI _).put _ _ _ hi (by omega) (samePut _ hl)) ((World.putObj_heap_other (by omega)).trans hk)⟩
      · exact ⟨some c, _, by have := run_endLoop (P := P) hl (by rw [hrec]; simp); rw [hrec] at this; exact this, hstop _ c _ (Nat.le_refl _) ((hIx c).put _ _ _ hi (by omega) (samePut _ hl)) ((World.putObj_heap_other (by omega)).trans hk)⟩

theorem wpIn_region_ordX {lp : Nat} {ops : Array Oper} {Q : Exit → Act → World → Prop} {id : Nat} {a : Act} {w : World} (l : List (Nat × Kd)) (pre : Nat) (R1 R2 : World → World → Prop) (Cd C : World → Prop) (hm : P.follows .mixedOrders = true) (ix : List (Nat × Bool)) (hB : (noDefer ops && okB .any ops pre ix (befB ops)) = true) (hq : ¬ LetsOut Q)
    (hix : l.map (fun x => (x.1, !x.2.alone)) = ix) (hnd : (ix.map (·.1)).Nodup) (sub : ∀ w w', R1 w w' → R2 w w') (hcd : Stable R2 Cd) (hs : Stable R1 C)
    (h1 : Cd { w with drawn := w.drawn + 1 }) (h2 : C { w with drawn := w.drawn + 1 }) (h : ordX P ops R1 R2 Cd Q pre l a C (fun _ => True)) : (Code.region id ops true).wpIn (Fence.wide.inRound lp) 0 P Q a w := by
  subst hix
  simp only [okB, Bool.and_eq_true, decide_eq_true_eq] at hB
  obtain ⟨hdf, ⟨⟨⟨⟨b1, b2⟩, b3⟩, b4⟩, b5⟩, b6⟩ := hB
  have hkd := ordX_stab _ _ _ _ h
  refine wpIn_region_any hm (wpAnyIn_of hq hdf _ _ _ _ (wpAny_of_wpX (R1 := R1) (R2 := R2) (Cd := Cd) (kd := kdOf l) (pre := pre) ⟨sub, hcd, fun i => (kdOf_all (p := fun k => (k.alone = true → ∀ v, Stable R1 (k.T v)) ∧ (k.alone = false → ∀ v, Stable R2 (k.T v))) ⟨(fun h => by cases h), fun _ _ _ _ _ _ => trivial⟩ hkd i).1,
    fun i => (kdOf_all (p := fun k => (k.alone = true → ∀ v, Stable R1 (k.T v)) ∧ (k.alone = false → ∀ v, Stable R2 (k.T v))) ⟨(fun h => by cases h), fun _ _ _ _ _ _ => trivial⟩ hkd i).2⟩ _ _ _ C (fun _ => True) _ ?_ hs (fun _ _ _ _ => trivial) h1 h2 trivial))
  refine wpX_of_ord b1 b2 b3 b4 l _ _ a C _ (kdOf_mem (by rw [List.map_map] at hnd; exact hnd)) (by simp) (fun j i hj hi hl _ => ?_) (by rw [List.length_map] at b5; exact b5) b6 h
  simp [hj] at hl
end Go.Sx
