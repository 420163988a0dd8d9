/-
  A range over a function in a round of another one; a range in a plain loop: a function that returns behind any number of ranges.
-/
import Derived.Test.YtgfaiihekibcbaaGreatDoorLibA
import Derived.RangeFuncNested
namespace Go.Sx
open Go.RowKit

variable {P : Program}

/-- As 'wpIn_rangeF'; the body is told that the loop's record lies. -/
theorem wpIn_rangeH {α : Type} {g : Operand} {ps : Array Tmp} {assign body : Code} {Q : Exit → Act → World → Prop} {a : Act} {w : World} {gf : Nat} {lb : Array Value} {encs : α → Array Value} {xs : List α} {Need : World → Prop}
    (hg : a.eval g = .func (.func gf) #[] lb) (eg : ∀ args w, (callFunc gf args).run P w = .ok (.enter gf args) w) (hit : IterC P gf lb encs xs Need) (hps : ∀ x, (encs x).size = ps.size)
    (I : Nat → World → Prop) (Ix : Code → World → Prop) (hI : ∀ k, Abide w.heap.size (I k)) (hIx : ∀ c, Abide w.heap.size (Ix c)) (hN : ∀ k W, I k W → Need W) (h0 : I 0 w)
    (hround : ∀ l k W (hk : k < xs.length), I k W → w.heap.size ≤ l → l < W.heap.size →
      assign.wpIn (Fence.wide.inRound l) 0 P (Exit.then (fun a1 W1 => KeepsFrom w.heap.size W W1 ∧ ∀ W2, Same l W1 W2 → (∃ r, W2.heap[l]? = some (.loop r)) → body.wpIn (Fence.wide.inRound l) 0 P (postF w.heap.size I Ix k W2) a1 W2) (fun _ _ _ => False))
        { tmps := (ps.zip (encs xs[k])).foldl (fun t (p, v) => t.setIfInBounds p v) a.tmps, defers := [] } W)
    (hdone : ∀ D W, w.heap.size ≤ D → I xs.length W → W.heap[D]? = some (.deferred (some [])) → Q .normal { a with defers := { target := .collected D, args := #[] } :: a.defers } W)
    (hstop : ∀ D c W, w.heap.size ≤ D → Ix c W → W.heap[D]? = some (.deferred (some [])) → c.wpIn Fence.wide 0 P Q { a with defers := { target := .collected D, args := #[] } :: a.defers } W) :
    (Code.rangeFunc g ps assign body).wpIn Fence.wide 0 P Q a w := by
  refine wpIn_rangeFunc ?_
  intro fn hfn
  obtain ⟨rec, hrec⟩ : ∃ rec : LoopState → Option Code → Loop, rec = fun st pe => { state := st, pending := pe, fn, tmps := a.tmps, params := ps, assign, body, defers := w.heap.size } := ⟨_, rfl⟩
  obtain ⟨W1, hW1⟩ : ∃ W1, (w.alloc (.deferred (some []))).alloc (.loop (rec .ready none)) = W1 := ⟨_, rfl⟩
  have hL1 : W1.heap[w.heap.size + 1]? = some (.loop (rec .ready none)) := by
    rw [← hW1]; have := World.alloc_heap_new (w.alloc (.deferred (some []))) (.loop (rec .ready none)); rwa [World.size_alloc] at this
  have hK1 : W1.heap[w.heap.size]? = some (.deferred (some [])) := by
    rw [← hW1]; exact (Below.heap_alloc _ _ _ (by simp)).trans (World.alloc_heap_new w _)
  have hx1 : Ext w W1 := by rw [← hW1]; exact ((Ext.refl w).alloc _).alloc _
  have hI1 : I 0 W1 := (hI 0).ext _ _ h0 hx1
  have samePut : ∀ {A : World} {r : Loop} (r' : Loop), A.heap[w.heap.size + 1]? = some (.loop r) → Same (w.heap.size + 1) A (A.putObj (w.heap.size + 1) (.loop r')) :=
    fun r' h => ⟨_, _, h, rfl, rfl, rfl⟩
  refine ⟨w.heap.size + 1, [{ target := .collected w.heap.size, args := #[] }], W1, { target := .fn (.func gf) lb, args := #[.func (.yield (w.heap.size + 1)) #[] #[]] }, W1, gf,
    #[.func (.yield (w.heap.size + 1)) #[] #[]] ++ lb, W1, ?_, ?_, fun _ _ => trivial, ?_, fun h => absurd h (by simp [Fence.wide]), ?_⟩
  · rw [← hW1, hrec]; exact run_enterLoop_outer _ _ _ _ _
  · simp only [resolve, hg]
    simp [go_sem]
  · simp [invoke, go_sem, eg]
  · refine (hit (w.heap.size + 1)
      (fun k W => I k W ∧ W.heap[w.heap.size + 1]? = some (.loop (rec .ready none)) ∧ W.heap[w.heap.size]? = some (.deferred (some [])))
      (fun W => ∃ c, Ix c W ∧ W.heap[w.heap.size + 1]? = some (.loop (rec .done (some c))) ∧ W.heap[w.heap.size]? = some (.deferred (some [])))
      W1
      (fun k W W' ⟨h1, h2, h3⟩ hx => ⟨(hI k).ext _ _ h1 hx, (hx.block _ (Array.getElem?_eq_some_iff.1 h2).1).trans h2, (hx.block _ (Array.getElem?_eq_some_iff.1 h3).1).trans h3⟩)
      (fun W W' ⟨c, h1, h2, h3⟩ hx => ⟨c, (hIx c).ext _ _ h1 hx, (hx.block _ (Array.getElem?_eq_some_iff.1 h2).1).trans h2, (hx.block _ (Array.getElem?_eq_some_iff.1 h3).1).trans h3⟩)
      (fun k W h => hN k W h.1)
      ?_ ⟨hI1, hL1, hK1⟩).mono ?_
    · rintro k W hk ⟨hi, hl, hkd⟩
      have hlt : w.heap.size + 1 < W.heap.size := (Array.getElem?_eq_some_iff.1 hl).1
      have hy := run_yield (P := P) (args := encs xs[k]) hl (by rw [hrec]; exact hps _)
      rw [hrec] at hy
      refine ⟨fn, _, assign, body, hy, roundIn_of_wpIn hfn (wpIn_mono (hround _ k W hk hi (by omega) hlt) ?_)⟩
      rintro e a1 W2 hp
      cases e with
      | normal =>
        obtain ⟨hk1, hb⟩ := hp
        have hl1 := hk1.same _ _ (by omega) hl rfl
        have hd1 := hk1.same _ _ (by omega) hkd rfl
        have hlt1 := (Array.getElem?_eq_some_iff.1 hl1).1
        refine ⟨_, run_beginRound hl1 (by rw [hrec]), ?_⟩
        have hl2 : (W2.putObj (w.heap.size + 1) (.loop { rec .ready none with state := .busy })).heap[w.heap.size + 1]? = some (.loop { rec .ready none with state := .busy }) := World.putObj_heap_same hlt1
        have hd2 : (W2.putObj (w.heap.size + 1) (.loop { rec .ready none with state := .busy })).heap[w.heap.size]? = some (.deferred (some [])) := (World.putObj_heap_other (by omega)).trans hd1
        refine wpIn_mono (hb _ (samePut _ hl1) ⟨_, hl2⟩) ?_
        have fin : ∀ (jump : Option Code) (W3 : World), KeepsFrom w.heap.size (W2.putObj (w.heap.size + 1) (.loop { rec .ready none with state := .busy })) W3 →
            (Instr.endRound (w.heap.size + 1) jump).run P W3 = .ok (.bool jump.isNone) (W3.putObj (w.heap.size + 1) (.loop (rec (if jump.isNone then .ready else .done) jump))) ∧
            W3.heap[w.heap.size + 1]? = some (.loop { rec .ready none with state := .busy }) ∧
            (W3.putObj (w.heap.size + 1) (.loop (rec (if jump.isNone then .ready else .done) jump))).heap[w.heap.size + 1]? = some (.loop (rec (if jump.isNone then .ready else .done) jump)) ∧
            (W3.putObj (w.heap.size + 1) (.loop (rec (if jump.isNone then .ready else .done) jump))).heap[w.heap.size]? = some (.deferred (some [])) := fun jump W3 hk3 => by
          have hl3 := hk3.same _ _ (by omega) hl2 rfl
          have := run_endRound (P := P) jump hl3
          rw [hrec] at this ⊢
          exact ⟨this, by rw [hrec] at hl3; exact hl3, World.putObj_heap_same (Array.getElem?_eq_some_iff.1 hl3).1, (World.putObj_heap_other (by omega)).trans (hk3.same _ _ (by omega) hd2 rfl)⟩
        rintro e a3 W3 hp
        cases e with
        | normal =>
          obtain ⟨hk3, hi3⟩ := hp
          obtain ⟨hr, hl3, hl4, hk4⟩ := fin none W3 hk3
          exact ⟨_, _, hr, .inl ⟨rfl, (hI _).put _ _ _ hi3 (by omega) (samePut _ hl3), hl4, hk4⟩⟩
        | ret =>
          obtain ⟨hk3, hi3⟩ := hp
          obtain ⟨hr, hl3, hl4, hk4⟩ := fin (some .ret) W3 hk3
          exact ⟨_, _, hr, .inr ⟨rfl, .ret, (hIx _).put _ _ _ hi3 (by omega) (samePut _ hl3), hl4, hk4⟩⟩
        | exit id =>
          obtain ⟨hk3, hi3⟩ := hp
          obtain ⟨hr, hl3, hl4, hk4⟩ := fin (some (.exit id)) W3 hk3
          exact ⟨_, _, hr, .inr ⟨rfl, .exit id, (hIx _).put _ _ _ hi3 (by omega) (samePut _ hl3), hl4, hk4⟩⟩
        | goto t =>
          obtain ⟨hk3, hi3⟩ := hp
          obtain ⟨hr, hl3, hl4, hk4⟩ := fin (some (.goto t)) W3 hk3
          exact ⟨_, _, hr, .inr ⟨rfl, .goto t, (hIx _).put _ _ _ hi3 (by omega) (samePut _ hl3), hl4, hk4⟩⟩
        | panic ch => exact hp.elim
        | outgrown => exact hp.elim
      | ret => exact hp.elim
      | exit id => exact hp.elim
      | goto t => exact hp.elim
      | panic ch => exact hp.elim
      | outgrown => exact hp.elim
    · rintro e W2 ⟨⟨v, rfl⟩, (⟨hi, hl, hk⟩ | ⟨c, hi, hl, hk⟩)⟩
      · exact ⟨none, _, by have := run_endLoop (P := P) hl (by rw [hrec]; simp); rw [hrec] at this; exact this, hdone _ _ (Nat.le_refl _) ((hI _).put _ _ _ hi (by omega) (samePut _ hl)) ((World.putObj_heap_other (by omega)).trans hk)⟩
      · exact ⟨some c, _, by have := run_endLoop (P := P) hl (by rw [hrec]; simp); rw [hrec] at this; exact this, hstop _ c _ (Nat.le_refl _) ((hIx c).put _ _ _ hi (by omega) (samePut _ hl)) ((World.putObj_heap_other (by omega)).trans hk)⟩

/-- A range in a round of loop l₀. -/
theorem wpIn_rangeI {α : Type} {g : Operand} {ps : Array Tmp} {assign body : Code} {Q : Exit → Act → World → Prop} {a : Act} {w : World} {gf : Nat} {lb : Array Value} {encs : α → Array Value} {xs : List α} {Need : World → Prop}
    {l₀ : Nat} {r₀ : Loop} (hl₀ : w.heap[l₀]? = some (.loop r₀)) (hg : a.eval g = .func (.func gf) #[] lb) (eg : ∀ args w, (callFunc gf args).run P w = .ok (.enter gf args) w) (hit : IterC P gf lb encs xs Need) (hps : ∀ x, (encs x).size = ps.size)
    (I : Nat → World → Prop) (Ix : Code → World → Prop) (hI : ∀ k, Abide w.heap.size (I k)) (hIx : ∀ c, Abide w.heap.size (Ix c)) (hN : ∀ k W, I k W → Need W) (h0 : I 0 w)
    (hround : ∀ l k W (hk : k < xs.length), I k W → w.heap.size ≤ l → l < W.heap.size →
      assign.wpIn (Fence.wide.inRound l) 0 P (Exit.then (fun a1 W1 => KeepsFrom w.heap.size W W1 ∧ ∀ W2, Same l W1 W2 → (∃ r, W2.heap[l]? = some (.loop r)) → body.wpIn (Fence.wide.inRound l) 0 P (postF w.heap.size I Ix k W2) a1 W2) (fun _ _ _ => False))
        { tmps := (ps.zip (encs xs[k])).foldl (fun t (p, v) => t.setIfInBounds p v) a.tmps, defers := [] } W)
    (hdone : ∀ W, I xs.length W → Q .normal a W)
    (hstop : ∀ c W, Ix c W → c.wpIn (Fence.wide.inRound l₀) 0 P Q a W) :
    (Code.rangeFunc g ps assign body).wpIn (Fence.wide.inRound l₀) 0 P Q a w := by
  refine wpIn_rangeFunc ?_
  intro fn hfn
  obtain ⟨rec, hrec⟩ : ∃ rec : LoopState → Option Code → Loop, rec = fun st pe => { state := st, pending := pe, fn, tmps := a.tmps, params := ps, assign, body, defers := r₀.defers } := ⟨_, rfl⟩
  obtain ⟨W1, hW1⟩ : ∃ W1, w.alloc (.loop (rec .ready none)) = W1 := ⟨_, rfl⟩
  have hL1 : W1.heap[w.heap.size]? = some (.loop (rec .ready none)) := by rw [← hW1]; exact World.alloc_heap_new w _
  have hx1 : Ext w W1 := by rw [← hW1]; exact (Ext.refl w).alloc _
  have hI1 : I 0 W1 := (hI 0).ext _ _ h0 hx1
  have samePut : ∀ {A : World} {r : Loop} (r' : Loop), A.heap[w.heap.size]? = some (.loop r) → Same (w.heap.size) A (A.putObj (w.heap.size) (.loop r')) :=
    fun r' h => ⟨_, _, h, rfl, rfl, rfl⟩
  refine ⟨w.heap.size, [], W1, { target := .fn (.func gf) lb, args := #[.func (.yield (w.heap.size)) #[] #[]] }, W1, gf,
    #[.func (.yield (w.heap.size)) #[] #[]] ++ lb, W1, ?_, ?_, fun _ _ => trivial, ?_, fun h => absurd h (by simp [Fence.wide]), ?_⟩
  · rw [← hW1, hrec]; exact run_enterLoop_inner hl₀ _ _ _ _ _
  · simp only [resolve, hg]
    simp [go_sem]
  · simp [invoke, go_sem, eg]
  · refine (hit (w.heap.size)
      (fun k W => I k W ∧ W.heap[w.heap.size]? = some (.loop (rec .ready none)))
      (fun W => ∃ c, Ix c W ∧ W.heap[w.heap.size]? = some (.loop (rec .done (some c))))
      W1
      (fun k W W' ⟨h1, h2⟩ hx => ⟨(hI k).ext _ _ h1 hx, (hx.block _ (Array.getElem?_eq_some_iff.1 h2).1).trans h2⟩)
      (fun W W' ⟨c, h1, h2⟩ hx => ⟨c, (hIx c).ext _ _ h1 hx, (hx.block _ (Array.getElem?_eq_some_iff.1 h2).1).trans h2⟩)
      (fun k W h => hN k W h.1)
      ?_ ⟨hI1, hL1⟩).mono ?_
    · rintro k W hk ⟨hi, hl⟩
      have hlt : w.heap.size < W.heap.size := (Array.getElem?_eq_some_iff.1 hl).1
      have hy := run_yield (P := P) (args := encs xs[k]) hl (by rw [hrec]; exact hps _)
      rw [hrec] at hy
      refine ⟨fn, _, assign, body, hy, roundIn_of_wpIn hfn (wpIn_mono (hround _ k W hk hi (by omega) hlt) ?_)⟩
      rintro e a1 W2 hp
      cases e with
      | normal =>
        obtain ⟨hk1, hb⟩ := hp
        have hl1 := hk1.same _ _ (by omega) hl rfl
        have hlt1 := (Array.getElem?_eq_some_iff.1 hl1).1
        refine ⟨_, run_beginRound hl1 (by rw [hrec]), ?_⟩
        have hl2 : (W2.putObj (w.heap.size) (.loop { rec .ready none with state := .busy })).heap[w.heap.size]? = some (.loop { rec .ready none with state := .busy }) := World.putObj_heap_same hlt1
        refine wpIn_mono (hb _ (samePut _ hl1) ⟨_, hl2⟩) ?_
        have fin : ∀ (jump : Option Code) (W3 : World), KeepsFrom w.heap.size (W2.putObj (w.heap.size) (.loop { rec .ready none with state := .busy })) W3 →
            (Instr.endRound (w.heap.size) jump).run P W3 = .ok (.bool jump.isNone) (W3.putObj (w.heap.size) (.loop (rec (if jump.isNone then .ready else .done) jump))) ∧
            W3.heap[w.heap.size]? = some (.loop { rec .ready none with state := .busy }) ∧
            (W3.putObj (w.heap.size) (.loop (rec (if jump.isNone then .ready else .done) jump))).heap[w.heap.size]? = some (.loop (rec (if jump.isNone then .ready else .done) jump)) := fun jump W3 hk3 => by
          have hl3 := hk3.same _ _ (by omega) hl2 rfl
          have := run_endRound (P := P) jump hl3
          rw [hrec] at this ⊢
          exact ⟨this, by rw [hrec] at hl3; exact hl3, World.putObj_heap_same (Array.getElem?_eq_some_iff.1 hl3).1⟩
        rintro e a3 W3 hp
        cases e with
        | normal =>
          obtain ⟨hk3, hi3⟩ := hp
          obtain ⟨hr, hl3, hl4⟩ := fin none W3 hk3
          exact ⟨_, _, hr, .inl ⟨rfl, (hI _).put _ _ _ hi3 (by omega) (samePut _ hl3), hl4⟩⟩
        | ret =>
          obtain ⟨hk3, hi3⟩ := hp
          obtain ⟨hr, hl3, hl4⟩ := fin (some .ret) W3 hk3
          exact ⟨_, _, hr, .inr ⟨rfl, .ret, (hIx _).put _ _ _ hi3 (by omega) (samePut _ hl3), hl4⟩⟩
        | exit id =>
          obtain ⟨hk3, hi3⟩ := hp
          obtain ⟨hr, hl3, hl4⟩ := fin (some (.exit id)) W3 hk3
          exact ⟨_, _, hr, .inr ⟨rfl, .exit id, (hIx _).put _ _ _ hi3 (by omega) (samePut _ hl3), hl4⟩⟩
        | goto t =>
          obtain ⟨hk3, hi3⟩ := hp
          obtain ⟨hr, hl3, hl4⟩ := fin (some (.goto t)) W3 hk3
          exact ⟨_, _, hr, .inr ⟨rfl, .goto t, (hIx _).put _ _ _ hi3 (by omega) (samePut _ hl3), hl4⟩⟩
        | panic ch => exact hp.elim
        | outgrown => exact hp.elim
      | ret => exact hp.elim
      | exit id => exact hp.elim
      | goto t => exact hp.elim
      | panic ch => exact hp.elim
      | outgrown => exact hp.elim
    · rintro e W2 ⟨⟨v, rfl⟩, (⟨hi, hl⟩ | ⟨c, hi, hl⟩)⟩
      · exact ⟨none, _, by have := run_endLoop (P := P) hl (by rw [hrec]; simp); rw [hrec] at this; exact this, hdone _ ((hI _).put _ _ _ hi (by omega) (samePut _ hl))⟩
      · exact ⟨some c, _, by have := run_endLoop (P := P) hl (by rw [hrec]; simp); rw [hrec] at this; exact this, hstop c _ ((hIx c).put _ _ _ hi (by omega) (samePut _ hl))⟩


/-- A function that returns behind any number of ranges. -/
theorem leaves_marks {fn : Func} {R : Ending → World → Prop} {tmps : Array Value} {v : Value} : ∀ (Ds : List Nat) (W : World), Ds.Nodup → (∀ D ∈ Ds, W.heap[D]? = some (.deferred (some []))) →
    (∀ W', (results fn tmps).run P W' = .ok v W') → (∀ W', (∀ B, (∀ D ∈ Ds, B ≤ D) → Below B W W') → (∀ (b : Nat) (cs : Array Value) (e : TypeId) (z : Nat × Nat), W.heap[b]? = some (Obj.cells cs e z) → W'.heap[b]? = some (Obj.cells cs e z)) → R (.returned v) W') →
    LeavesInM Fence.wide 0 P fn tmps R (Ds.map fun D => { target := .collected D, args := #[] }) .returning W
  | [], W, _, _, hr, hR => ⟨_, hr W, hR W (fun B _ => Below.refl B W) (fun _ _ _ _ h => h)⟩
  | D :: Ds, W, hn, hd, hr, hR => by
    have hD := hd D (by simp)
    have s : Same D W (W.putObj D (.deferred none)) := ⟨_, _, hD, rfl, rfl, rfl⟩
    refine ⟨by simp, .inl ⟨D, _, rfl, run_takeDeferred hD, ?_⟩⟩
    refine leaves_marks Ds _ (List.nodup_cons.1 hn).2 (fun E hE => (World.putObj_heap_other (fun e => (List.nodup_cons.1 hn).1 (by subst e; exact hE))).trans (hd E (by simp [hE]))) hr (fun W' h1 h2 => hR W' (fun B hB => ?_) (fun b cs e z hb => h2 b cs e z (s.cells hb)))
    exact (s.below (hB D (by simp))).trans (h1 B fun E hE => hB E (by simp [hE]))
end Go.Sx
