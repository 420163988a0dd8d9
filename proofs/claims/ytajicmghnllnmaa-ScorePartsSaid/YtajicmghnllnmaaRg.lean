/-
  A range over a function whose iterator hands on a known list; regions that draw their order in a round.
-/
import Derived.RangeFuncNested
import Derived.RangeFuncBound
import Derived.RangeFuncCalls
import Derived.RangeFuncLeaves
import Derived.Shelf.Abstract
import Derived.Shelf.RegionOpen
import Derived.WalkKit
import Derived.OwnWalkIn
import Derived.TacticsInMore
import Derived.LoopNIn
import Derived.LoopIn
import Derived.Test.YtajicmghnllnmaaLib
namespace Go.Sx
open Go.RowKit

variable {P : Program}

theorem wide_fn (f : FuncId) : Fence.wide.fn f = True := rfl
theorem wide_depth : (Fence.wide.depth = none) = True := by simp [Fence.wide]

theorem run_isPut {w : World} {l : Nat} {o o' : Obj} (h : w.heap[l]? = some o') (hc : o'.isCells = false) (hc' : o.isCells = false) (p : Addr) : (w.putObj l o).cell? p = w.cell? p := by
  unfold World.cell?
  by_cases e : p.block = l
  · subst e
    rw [World.putObj_heap_same (Array.getElem?_eq_some_iff.1 h).1, h]
    cases o <;> cases o' <;> simp_all [Obj.isCells]
  · rw [World.putObj_heap_other e]

/-- The same but for the record at block l, which holds no cells. -/
def Same (l : Nat) (W W' : World) : Prop := ∃ o o', W.heap[l]? = some o' ∧ o'.isCells = false ∧ o.isCells = false ∧ W' = W.putObj l o

section same
variable {l : Nat} {W W' : World}
theorem Same.cell (h : Same l W W') (p : Addr) : W'.cell? p = W.cell? p := by
  obtain ⟨_, _, h1, h2, h3, rfl⟩ := h; exact run_isPut h1 h2 h3 p
theorem Same.frozen (h : Same l W W') (p : Addr) : W'.frozen? p = W.frozen? p := by
  obtain ⟨o, o', h1, h2, h3, rfl⟩ := h
  unfold World.frozen?
  by_cases e : p.block = l
  · subst e
    rw [World.putObj_heap_same (Array.getElem?_eq_some_iff.1 h1).1, h1]
    cases o <;> cases o' <;> simp_all [Obj.isCells]
  · rw [World.putObj_heap_other e]
theorem Same.size (h : Same l W W') : W'.heap.size = W.heap.size := by
  obtain ⟨o, o', h1, h2, h3, rfl⟩ := h; simp
theorem Same.below (h : Same l W W') {B : Nat} (hB : B ≤ l) : Below B W W' := by
  obtain ⟨o, o', h1, h2, h3, rfl⟩ := h
  exact ⟨rfl, rfl, rfl, by simp, fun k hk => World.putObj_heap_other (by omega)⟩
theorem Same.cells (h : Same l W W') {b : Nat} {cs : Array Value} {e : TypeId} {z : Nat × Nat} (hb : W.heap[b]? = some (.cells cs e z)) : W'.heap[b]? = some (.cells cs e z) := by
  obtain ⟨o, o', h1, h2, h3, rfl⟩ := h
  rw [World.putObj_heap_other (by rintro rfl; rw [hb] at h1; cases h1; simp [Obj.isCells] at h2)]
  exact hb
theorem Same.sl (h : Same l W W') {α : Type} {sz : Nat} {enc : α → List Value} {v : Value} {xs : List α} (s : Sl W sz enc v xs) : Sl W' sz enc v xs := by
  obtain ⟨a?, cap, rfl, h1, h2, h3, h4⟩ := s
  exact ⟨a?, cap, rfl, h1, h2, h3, fun i hi => let ⟨a, ha, hc⟩ := h4 i hi; ⟨a, ha, fun j hj => (h.cell _).trans (hc j hj)⟩⟩
theorem Same.own (h : Same l W W') {α : Type} {B : Nat} {e : TypeId} {sz : Nat} {enc : α → List Value} {v : Value} {xs : List α} (s : OwnR W B e sz enc v xs) : OwnR W' B e sz enc v xs := by
  obtain ⟨h1, h2⟩ := s
  refine ⟨h1, h2.imp id fun ⟨g, cap, cur, a, b, c, d⟩ => ⟨g, cap, cur, a, b, h.cells c, d⟩⟩
theorem Same.boxed (h : Same l W W') {B : Nat} {t : TypeId} {v : Value} (s : Boxed W B t v) : Boxed W' B t v := h.cells s
end same

/-- The contract of an iterator value that hands on the elements of xs, one by one; 'Need': what it reads. -/
def IterC {α : Type} (P : Program) (gf : Nat) (lb : Array Value) (encs : α → Array Value) (xs : List α) (Need : World → Prop) : Prop :=
  ∀ (l : Nat) (J : Nat → World → Prop) (Jx : World → Prop) (W : World),
    (∀ k W W', J k W → Ext W W' → J k W') → (∀ W W', Jx W → Ext W W' → Jx W') → (∀ k W, J k W → Need W) →
    (∀ k W1 (hk : k < xs.length), J k W1 → YieldAt Fence.wide 0 P l (encs xs[k]) W1 fun e W' =>
      (e = .returned (.bool true) ∧ J (k + 1) W') ∨ (e = .returned (.bool false) ∧ Jx W')) →
    J 0 W → CallsIn Fence.wide 0 P gf (#[.func (.yield l) #[] #[]] ++ lb) W fun e W' => (∃ v, e = .returned v) ∧ (J xs.length W' ∨ Jx W')

/-- How the body of a round may be left. -/
def postR (I : Nat → World → Prop) (Ix : Code → World → Prop) (k : Nat) (W : World) : Exit → Act → World → Prop
  | .normal, _, W' => KeepsOthers W W' ∧ I (k + 1) W'
  | .ret, _, W' => KeepsOthers W W' ∧ Ix .ret W'
  | .exit id, _, W' => KeepsOthers W W' ∧ Ix (.exit id) W'
  | .goto t, _, W' => KeepsOthers W W' ∧ Ix (.goto t) W'
  | .panic _, _, _ => False
  | .outgrown, _, _ => False

theorem _root_.Go.KeepsOthers.ext {W W' : World} (h : Ext W W') : KeepsOthers W W' :=
  ⟨h.size, fun k _ hk _ => (h.block k (Array.getElem?_eq_some_iff.1 hk).1).trans hk⟩
theorem _root_.Go.KeepsOthers.appd {W W' : World} {v v' : Value} (h : Appd W W' v v') (hv : ∀ b, v.ownBlock = some b → ∃ cs e z, W.heap[b]? = some (.cells cs e z)) : KeepsOthers W W' :=
  ⟨h.size, fun k o hk ho => by
    refine (h.kept k (Array.getElem?_eq_some_iff.1 hk).1 fun e => ?_).trans hk
    obtain ⟨cs, e', z, hc⟩ := hv k e.symm
    rw [hk] at hc; cases hc; simp [Obj.isCells] at ho⟩
theorem OwnR.isCells {α : Type} {w : World} {B : Nat} {e : TypeId} {sz : Nat} {enc : α → List Value} {v : Value} {xs : List α} (h : OwnR w B e sz enc v xs) : ∀ b, v.ownBlock = some b → ∃ cs e z, w.heap[b]? = some (.cells cs e z) := by
  intro b hb
  obtain ⟨_, ⟨rfl, _⟩ | ⟨g, cap, cur, rfl, _, hg, _⟩⟩ := h
  · cases hb
  · simp [Value.ownBlock] at hb; subst hb; exact ⟨_, _, _, hg⟩

/-- Stable under new blocks, and under a turn of a block at or beyond B that holds no cells. -/
structure Abide (B : Nat) (J : World → Prop) : Prop where
  ext : ∀ W W', J W → Ext W W' → J W'
  put : ∀ W W' l, J W → B ≤ l → Same l W W' → J W'

theorem Abide.and {B : Nat} {J K : World → Prop} (h : Abide B J) (k : Abide B K) : Abide B (fun W => J W ∧ K W) :=
  ⟨fun W W' ⟨a, b⟩ e => ⟨h.ext W W' a e, k.ext W W' b e⟩, fun W W' l ⟨a, b⟩ hl e => ⟨h.put W W' l a hl e, k.put W W' l b hl e⟩⟩
theorem Abide.pure {B : Nat} (p : Prop) : Abide B (fun _ => p) := ⟨fun _ _ a _ => a, fun _ _ _ a _ _ => a⟩
theorem Abide.false {B : Nat} : Abide B (fun _ => False) := .pure _
theorem Abide.exi {B : Nat} {β : Type} {J : β → World → Prop} (h : ∀ x, Abide B (J x)) : Abide B (fun W => ∃ x, J x W) :=
  ⟨fun W W' ⟨x, a⟩ e => ⟨x, (h x).ext W W' a e⟩, fun W W' l ⟨x, a⟩ hl e => ⟨x, (h x).put W W' l a hl e⟩⟩
theorem Abide.own {B B' : Nat} {α : Type} {e : TypeId} {sz : Nat} {enc : α → List Value} {v : Value} {xs : List α} : Abide B (fun W => OwnR W B' e sz enc v xs) :=
  ⟨fun _ _ h k => h.ext k, fun _ _ _ h _ k => k.own h⟩
theorem Abide.sl {B : Nat} {α : Type} {sz : Nat} {enc : α → List Value} {v : Value} {xs : List α} : Abide B (fun W => Sl W sz enc v xs) :=
  ⟨fun _ _ h k => h.ext k, fun _ _ _ h _ k => k.sl h⟩
theorem Abide.below {B B' : Nat} {w : World} (h1 : B' ≤ w.heap.size) (h2 : B' ≤ B) : Abide B (fun W => Below B' w W) :=
  ⟨fun _ _ h k => h.trans (k.below (Nat.le_trans h1 h.size)), fun _ _ _ h hl k => h.trans (k.below (Nat.le_trans h2 hl))⟩
theorem Abide.extw {B : Nat} {w : World} (h2 : w.heap.size ≤ B) : Abide B (fun W => Ext w W) := Abide.below (Nat.le_refl _) h2
theorem Abide.cell {B : Nat} {p : Addr} {v : Value} : Abide B (fun W => W.cell? p = some v) :=
  ⟨fun _ _ h k => k.cell h, fun _ _ _ h _ k => (k.cell p).trans h⟩
theorem Abide.boxed {B b : Nat} {t : TypeId} {v : Value} : Abide B (fun W => Boxed W b t v) :=
  ⟨fun _ _ h k => (k.block b h.lt).trans h, fun _ _ _ h _ k => k.boxed h⟩

theorem wpIn_range {α : Type} {g : Operand} {ps : Array Tmp} {assign body : Code} {Q : Exit → Act → World → Prop} {a : Act} {w : World} {gf : Nat} {lb : Array Value} {encs : α → Array Value} {xs : List α} {Need : World → Prop}
    (hg : a.eval g = .func (.func gf) #[] lb) (eg : ∀ args w, (callFunc gf args).run P w = .ok (.enter gf args) w) (hit : IterC P gf lb encs xs Need) (hps : ∀ x, (encs x).size = ps.size)
    (I : Nat → World → Prop) (Ix : Code → World → Prop) (hI : ∀ k, Abide w.heap.size (I k)) (hIx : ∀ c, Abide w.heap.size (Ix c)) (hN : ∀ k W, I k W → Need W) (h0 : I 0 w)
    (hround : ∀ l k W (hk : k < xs.length), I k W → w.heap.size ≤ l → l < W.heap.size →
      assign.wpIn (Fence.wide.inRound l) 0 P (Exit.then (fun a1 W1 => KeepsOthers W W1 ∧ ∀ W2, Same l W1 W2 → body.wpIn (Fence.wide.inRound l) 0 P (postR I Ix k W2) a1 W2) (fun _ _ _ => False))
        { tmps := (ps.zip (encs xs[k])).foldl (fun t (p, v) => t.setIfInBounds p v) a.tmps, defers := [] } W)
    (hdone : ∀ D W, w.heap.size ≤ D → I xs.length W → W.heap[D]? = some (.deferred (some [])) → Q .normal { a with defers := { target := .collected D, args := #[] } :: a.defers } W)
    (hstop : ∀ D c W, w.heap.size ≤ D → Ix c W → W.heap[D]? = some (.deferred (some [])) → c.wpIn Fence.wide 0 P Q { a with defers := { target := .collected D, args := #[] } :: a.defers } W) :
    (Code.rangeFunc g ps assign body).wpIn Fence.wide 0 P Q a w := by
  refine wpIn_rangeFunc ?_
  intro fn hfn
  obtain ⟨rec, hrec⟩ : ∃ rec : LoopState → Option Code → Loop, rec = fun st pe => { state := st, pending := pe, fn, tmps := a.tmps, params := ps, assign, body, defers := w.heap.size } := ⟨_, rfl⟩
  obtain ⟨W1, hW1⟩ : ∃ W1, (w.alloc (.deferred (some []))).alloc (.loop (rec .ready none)) = W1 := ⟨_, rfl⟩
  have hL1 : W1.heap[w.heap.size + 1]? = some (.loop (rec .ready none)) := by
    rw [← hW1]; have := World.alloc_heap_new (w.alloc (.deferred (some []))) (.loop (rec .ready none)); rwa [World.size_alloc] at this
  have hK1 : W1.heap[w.heap.size]? = some (.deferred (some [])) := by
    rw [← hW1]; exact (Below.heap_alloc _ _ _ (by simp)).trans (World.alloc_heap_new w _)
  have hx1 : Ext w W1 := by rw [← hW1]; exact ((Ext.refl w).alloc _).alloc _
  have hI1 : I 0 W1 := (hI 0).ext _ _ h0 hx1
  have samePut : ∀ {A : World} {r : Loop} (r' : Loop), A.heap[w.heap.size + 1]? = some (.loop r) → Same (w.heap.size + 1) A (A.putObj (w.heap.size + 1) (.loop r')) :=
    fun r' h => ⟨_, _, h, rfl, rfl, rfl⟩
  refine ⟨w.heap.size + 1, [{ target := .collected w.heap.size, args := #[] }], W1, { target := .fn (.func gf) lb, args := #[.func (.yield (w.heap.size + 1)) #[] #[]] }, W1, gf,
    #[.func (.yield (w.heap.size + 1)) #[] #[]] ++ lb, W1, ?_, ?_, fun _ _ => trivial, ?_, fun h => absurd h (by simp [Fence.wide]), ?_⟩
  · rw [← hW1, hrec]; exact run_enterLoop_outer _ _ _ _ _
  · simp only [resolve, hg]
    simp [go_sem]
  · simp [invoke, go_sem, eg]
  · refine (hit (w.heap.size + 1)
      (fun k W => I k W ∧ W.heap[w.heap.size + 1]? = some (.loop (rec .ready none)) ∧ W.heap[w.heap.size]? = some (.deferred (some [])))
      (fun W => ∃ c, Ix c W ∧ W.heap[w.heap.size + 1]? = some (.loop (rec .done (some c))) ∧ W.heap[w.heap.size]? = some (.deferred (some [])))
      W1
      (fun k W W' ⟨h1, h2, h3⟩ hx => ⟨(hI k).ext _ _ h1 hx, (hx.block _ (Array.getElem?_eq_some_iff.1 h2).1).trans h2, (hx.block _ (Array.getElem?_eq_some_iff.1 h3).1).trans h3⟩)
      (fun W W' ⟨c, h1, h2, h3⟩ hx => ⟨c, (hIx c).ext _ _ h1 hx, (hx.block _ (Array.getElem?_eq_some_iff.1 h2).1).trans h2, (hx.block _ (Array.getElem?_eq_some_iff.1 h3).1).trans h3⟩)
      (fun k W h => hN k W h.1)
      ?_ ⟨hI1, hL1, hK1⟩).mono ?_
    · rintro k W hk ⟨hi, hl, hkd⟩
      have hlt : w.heap.size + 1 < W.heap.size := (Array.getElem?_eq_some_iff.1 hl).1
      have hy := run_yield (P := P) (args := encs xs[k]) hl (by rw [hrec]; exact hps _)
      rw [hrec] at hy
      refine ⟨fn, _, assign, body, hy, roundIn_of_wpIn hfn (wpIn_mono (hround _ k W hk hi (by omega) hlt) ?_)⟩
      rintro e a1 W2 hp
      cases e with
      | normal =>
        obtain ⟨hk1, hb⟩ := hp
        have hl1 := hk1.same _ _ hl rfl
        have hd1 := hk1.same _ _ hkd rfl
        have hlt1 := (Array.getElem?_eq_some_iff.1 hl1).1
        refine ⟨_, run_beginRound hl1 (by rw [hrec]), ?_⟩
        have hl2 : (W2.putObj (w.heap.size + 1) (.loop { rec .ready none with state := .busy })).heap[w.heap.size + 1]? = some (.loop { rec .ready none with state := .busy }) := World.putObj_heap_same hlt1
        have hd2 : (W2.putObj (w.heap.size + 1) (.loop { rec .ready none with state := .busy })).heap[w.heap.size]? = some (.deferred (some [])) := (World.putObj_heap_other (by omega)).trans hd1
        refine wpIn_mono (hb _ (samePut _ hl1)) ?_
        have fin : ∀ (jump : Option Code) (W3 : World), KeepsOthers (W2.putObj (w.heap.size + 1) (.loop { rec .ready none with state := .busy })) W3 →
            (Instr.endRound (w.heap.size + 1) jump).run P W3 = .ok (.bool jump.isNone) (W3.putObj (w.heap.size + 1) (.loop (rec (if jump.isNone then .ready else .done) jump))) ∧
            W3.heap[w.heap.size + 1]? = some (.loop { rec .ready none with state := .busy }) ∧
            (W3.putObj (w.heap.size + 1) (.loop (rec (if jump.isNone then .ready else .done) jump))).heap[w.heap.size + 1]? = some (.loop (rec (if jump.isNone then .ready else .done) jump)) ∧
            (W3.putObj (w.heap.size + 1) (.loop (rec (if jump.isNone then .ready else .done) jump))).heap[w.heap.size]? = some (.deferred (some [])) := fun jump W3 hk3 => by
          have hl3 := hk3.same _ _ hl2 rfl
          have := run_endRound (P := P) jump hl3
          rw [hrec] at this ⊢
          exact ⟨this, by rw [hrec] at hl3; exact hl3, World.putObj_heap_same (Array.getElem?_eq_some_iff.1 hl3).1, (World.putObj_heap_other (by omega)).trans (hk3.same _ _ hd2 rfl)⟩
        rintro e a3 W3 hp
        cases e with
        | normal =>
          obtain ⟨hk3, hi3⟩ := hp
          obtain ⟨hr, hl3, hl4, hk4⟩ := fin none W3 hk3
          exact ⟨_, _, hr, .inl ⟨rfl, (hI _).put _ _ _ hi3 (by omega) (samePut _ hl3), hl4, hk4⟩⟩
        | ret =>
          obtain ⟨hk3, hi3⟩ := hp
          obtain ⟨hr, hl3, hl4, hk4⟩ := fin (some .ret) W3 hk3
          exact ⟨_, _, hr, .inr ⟨rfl, .ret, (hIx _).put _ _ _ hi3 (by omega) (samePut _ hl3), hl4, hk4⟩⟩
        | exit id =>
          obtain ⟨hk3, hi3⟩ := hp
          obtain ⟨hr, hl3, hl4, hk4⟩ := fin (some (.exit id)) W3 hk3
          exact ⟨_, _, hr, .inr ⟨rfl, .exit id, (hIx _).put _ _ _ hi3 (by omega) (samePut _ hl3), hl4, hk4⟩⟩
        | goto t =>
          obtain ⟨hk3, hi3⟩ := hp
          obtain ⟨hr, hl3, hl4, hk4⟩ := fin (some (.goto t)) W3 hk3
          exact ⟨_, _, hr, .inr ⟨rfl, .goto t, (hIx _).put _ _ _ hi3 (by omega) (samePut _ hl3), hl4, hk4⟩⟩
        | panic ch => exact hp.elim
        | outgrown => exact hp.elim
      | ret => exact hp.elim
      | exit id => exact hp.elim
      | goto t => exact hp.elim
      | panic ch => exact hp.elim
      | outgrown => exact hp.elim
    · rintro e W2 ⟨⟨v, rfl⟩, (⟨hi, hl, hk⟩ | ⟨c, hi, hl, hk⟩)⟩
      · exact ⟨none, _, by have := run_endLoop (P := P) hl (by rw [hrec]; simp); rw [hrec] at this; exact this, hdone _ _ (Nat.le_refl _) ((hI _).put _ _ _ hi (by omega) (samePut _ hl)) ((World.putObj_heap_other (by omega)).trans hk)⟩
      · exact ⟨some c, _, by have := run_endLoop (P := P) hl (by rw [hrec]; simp); rw [hrec] at this; exact this, hstop _ c _ (Nat.le_refl _) ((hIx c).put _ _ _ hi (by omega) (samePut _ hl)) ((World.putObj_heap_other (by omega)).trans hk)⟩

/-- At the return of a function that held one such loop. -/
theorem bodyPostM_ret {fn : Func} {R : Ending → World → Prop} {a : Act} {W : World} {D : Nat} {v : Value} (hd : a.defers = [{ target := .collected D, args := #[] }]) (hD : W.heap[D]? = some (.deferred (some [])))
    (hr : ∀ W', Same D W W' → (results fn a.tmps).run P W' = .ok v W') (hR : ∀ W', Same D W W' → R (.returned v) W') : bodyPostM Fence.wide 0 P fn R .ret a W := by
  show LeavesInM Fence.wide 0 P fn a.tmps R a.defers .returning W
  rw [hd]
  have hs : Same D W (W.putObj D (.deferred none)) := ⟨_, _, hD, rfl, rfl, rfl⟩
  refine ⟨by simp, .inl ⟨D, _, rfl, run_takeDeferred hD, ?_⟩⟩
  exact ⟨_, hr _ hs, hR _ hs⟩

theorem OwnR.setCell {α : Type} {w : World} {B : Nat} {e : TypeId} {sz : Nat} {enc : α → List Value} {v : Value} {xs : List α} (h : OwnR w B e sz enc v xs) {p : Addr} (hp : v.ownBlock ≠ some p.block) (u : Value) : OwnR (w.setCell p u) B e sz enc v xs := by
  obtain ⟨h1, h2⟩ := h
  refine ⟨h1, h2.imp id fun ⟨g, cap, cur, a, b, c, d⟩ => ⟨g, cap, cur, a, b, ?_, d⟩⟩
  rw [Below.heap_setCell _ _ _ _ (by rintro rfl; exact hp (by rw [a]; rfl))]; exact c

theorem _root_.Go.Boxed.appd {α : Type} {W w' : World} {b B : Nat} {t e : TypeId} {sz : Nat} {enc : α → List Value} {u v v' : Value} {xs : List α} (hb : Boxed W b t u) (hte : t ≠ e) (hown : OwnR W B e sz enc v xs) (ha : Appd W w' v v') : Boxed w' b t u :=
  (ha.kept b hb.lt (Boxed.not_row hb hte hown)).trans hb
theorem _root_.Go.Boxed.set' {W : World} {b : Nat} {t : TypeId} {u : Value} (hb : Boxed W b t u) {p : Addr} (hp : b ≠ p.block) (x : Value) : Boxed (W.setCell p x) b t u := by
  unfold Boxed
  rw [Below.heap_setCell _ _ _ _ hp]; exact hb
theorem _root_.Go.Boxed.ext {W W' : World} {b : Nat} {t : TypeId} {u : Value} (hb : Boxed W b t u) (h : Ext W W') : Boxed W' b t u := (h.block b hb.lt).trans hb

/-- 'x = append(x, ..)' for a variable x in a box: behind the append, and behind the store. -/
theorem box_app {α : Type} {W w' : World} {Bx B : Nat} {t e : TypeId} {sz : Nat} {enc : α → List Value} {v v' : Value} {xs xs' : List α} (hb : Boxed W Bx t v) (hte : t ≠ e) (hown : OwnR W B e sz enc v xs)
    (hown' : OwnR w' B e sz enc v' xs') (ha : Appd W w' v v') :
    Boxed w' Bx t v ∧ Boxed (w'.setCell ⟨Bx, 0, none⟩ v') Bx t v' ∧ OwnR (w'.setCell ⟨Bx, 0, none⟩ v') B e sz enc v' xs' ∧ KeepsOthers W (w'.setCell ⟨Bx, 0, none⟩ v') := by
  have hne : v.ownBlock ≠ some Bx := fun h => Boxed.not_row hb hte hown h.symm
  have hb1 : Boxed w' Bx t v := (ha.kept Bx hb.lt (fun h => hne h.symm)).trans hb
  exact ⟨hb1, hb1.set v', hown'.setCell (ha.apart hb.lt hne) _, (KeepsOthers.appd ha hown.isCells).trans (KeepsOthers.setCell _ _ _)⟩

/-- What a slice of one element, made in a region that draws, is good for. -/
def Sl1 (B : Nat) (e : TypeId) (cs : Array Value) (v : Value) (w : World) : Prop := ∃ b, v = .slice (some ⟨b, 0, none⟩) 1 1 ∧ B ≤ b ∧ w.heap[b]? = some (.cells cs e (0, 0))
theorem Sl1.stable (B : Nat) (e : TypeId) (cs : Array Value) (v : Value) : Stable Ext (Sl1 B e cs v) := by
  rintro w w' ⟨b, h1, h2, h3⟩ h
  exact ⟨b, h1, h2, (h.block b (Array.getElem?_eq_some_iff.1 h3).1).trans h3⟩
theorem Sl1.new (w : World) (e : TypeId) (cs : Array Value) {B : Nat} (hB : B ≤ w.heap.size) : Sl1 B e cs (.slice (some ⟨w.heap.size, 0, none⟩) 1 1) (w.alloc (.cells cs e)) :=
  ⟨_, rfl, hB, World.alloc_heap_new w _⟩
theorem row_cells {w : World} {b : Nat} {cs : Array Value} {e : TypeId} (h : w.heap[b]? = some (.cells cs e (0, 0))) (j : Nat) (u : Value) (hu : cs.toList[j]? = some u) : w.cell? ((⟨b, 0, none⟩ : Addr).add j) = some u := by
  rw [Addr.add_lit]
  unfold World.cell?
  simp only [Nat.zero_add, h]
  simpa using hu

/-- A slice that lies below block B. -/
def SlB {α : Type} (w : World) (B : Nat) (sz : Nat) (enc : α → List Value) (u : Value) (xs : List α) : Prop :=
  Sl w sz enc u xs ∧ (xs ≠ [] → ∀ a n c, u = .slice (some a) n c → a.block < B)

theorem SlB.below {α : Type} {w w' : World} {B B' : Nat} {u : Value} {sz : Nat} {enc : α → List Value} {xs : List α} (s : SlB w B sz enc u xs) (h : Below B' w w') (hB : B ≤ B') : SlB w' B sz enc u xs := by
  obtain ⟨s, hne⟩ := s
  refine ⟨?_, hne⟩
  obtain ⟨a?, cap, rfl, h1, h2, h3, h4⟩ := s
  refine ⟨a?, cap, rfl, h1, h2, h3, fun i hi => ?_⟩
  obtain ⟨a, rfl, hc⟩ := h4 i hi
  have hlt := hne (by rintro rfl; simp at hi) a _ _ rfl
  exact ⟨a, rfl, fun j hj => (h.cell (p := a.add (i * sz + j)) (by rw [add_block]; omega)).trans (hc j hj)⟩

theorem Sl.slB {α : Type} {w : World} {u : Value} {sz : Nat} {enc : α → List Value} {xs : List α} (s : Sl w sz enc u xs) (hsz : 0 < sz) : SlB w w.heap.size sz enc u xs := by
  refine ⟨s, fun hx a n c e => ?_⟩
  subst e
  have hpos : 0 < xs.length := by cases xs with | nil => exact absurd rfl hx | cons _ _ => simp
  obtain ⟨b, o, e, hc⟩ := s.at hsz 0 hpos
  cases e
  have := lt_of_cell (hc 0 hsz)
  exact this
theorem SlB.mono {α : Type} {w : World} {B B' : Nat} {u : Value} {sz : Nat} {enc : α → List Value} {xs : List α} (s : SlB w B sz enc u xs) (h : B ≤ B') : SlB w B' sz enc u xs :=
  ⟨s.1, fun hx a n c e => Nat.lt_of_lt_of_le (s.2 hx a n c e) h⟩
theorem SlB.nil {α : Type} {w : World} {B : Nat} {sz : Nat} {enc : α → List Value} : SlB w B sz enc (.slice none 0 0) ([] : List α) := ⟨Sl.nil w sz enc, fun h => absurd rfl h⟩
theorem Abide.slB {α : Type} {B' : Nat} {B : Nat} {sz : Nat} {enc : α → List Value} {u : Value} {xs : List α} : Abide B' (fun W => SlB W B sz enc u xs) :=
  ⟨fun _ _ h k => ⟨h.1.ext k, h.2⟩, fun _ _ _ h _ k => ⟨k.sl h.1, h.2⟩⟩

/-! ### A region that draws its order, in a round -/

def noDefer (ops : Array Oper) : Bool := ops.all fun o => match o.op with | .defer _ => false | _ => true

theorem wpOpIn_of {l : Nat} {ops : Array Oper} {Q : Exit → Act → World → Prop} (hq : ¬ LetsOut Q) (hdf : noDefer ops = true) {i : Nat} {K K' : Act → World → Prop} {a : Act} {w : World}
    (hK : ∀ a w, K a w → K' a w) (h : wpOp P ops Q i K a w) : wpOpIn (Fence.wide.inRound l) 0 P ops Q i K' a w := by
  unfold wpOp at h
  unfold wpOpIn
  split
  · rename_i ho; simp only [ho] at h; exact hK _ _ h
  · rename_i o ho
    simp only [ho] at h
    have hnd : ∀ c, o.op ≠ .defer c := fun c e => by
      have := Array.all_eq_true_iff_forall_mem.1 hdf o (Array.mem_of_getElem? ho)
      simp [e] at this
    split
    · rename_i hw
      rw [if_pos hw] at h
      rcases h with h | ⟨_, h⟩
      case inr => exact absurd h hq
      refine ⟨fun _ _ => trivial, ?_⟩
      rw [Oper.semAt_eq _ _ _ hnd]
      unfold Oper.wp at h
      generalize (execOp a.eval o).run P w = r at *
      cases r with
      | ok x w' =>
        cases x <;> simp only [Oper.upon] at h <;> simp only [Oper.uponIn]
        · exact hK _ _ h
        · exact hK _ _ h
        · refine ⟨fun h => absurd h (by simp [Fence.wide]), CallsIn.inRound l (callsIn_wide.2 (h.mono fun e w'' he => ?_))⟩
          cases e with
          | returned v => exact hK _ _ he
          | panicked c => exact he
          | outgrown => exact he
        · exact hK _ _ h
        · refine ⟨fun h => absurd h (by simp [Fence.wide]), fun c cs _ => ?_⟩
          obtain ⟨v, w'', r, s⟩ := h c cs
          exact ⟨v, w'', hK _ _ r, stepsIn_wide.2 s⟩
      | halt x w' => cases x <;> simp only [Oper.upon] at h <;> simp only [Oper.uponIn] <;> exact h
    · rename_i hw
      rw [if_neg hw] at h
      exact ⟨fun _ _ => trivial, hK _ _ h⟩

theorem wpAnyIn_of {l : Nat} {md : Region.Mode} {ops : Array Oper} {Q : Exit → Act → World → Prop} (hq : ¬ LetsOut Q) (hdf : noDefer ops = true) : ∀ (fuel : Nat) (listed : Array Bool) (a : Act) (w : World),
    wpAny P md ops Q fuel listed a w → wpAnyIn (Fence.wide.inRound l) 0 P md ops Q fuel listed a w
  | 0, _, _, _, h => h
  | fuel + 1, _, _, _, h => ⟨h.1, fun i hi => wpOpIn_of hq hdf (fun a w h => wpAnyIn_of hq hdf fuel _ a w h) (h.2 i hi)⟩

theorem wpIn_region_ord {l : Nat} {id : Nat} {ops : Array Oper} {Q : Exit → Act → World → Prop} {a : Act} {w : World} (ord : List (Nat × Bool)) (pre : Nat) (R : World → World → Prop) (C : World → Prop) (hm : P.follows .mixedOrders = true)
    (hB : (noDefer ops && okB .any ops pre ord (befB ops)) = true) (hq : ¬ LetsOut Q)
    (hs : Stable R C) (hC : C { w with drawn := w.drawn + 1 }) (h : wpOrd P ops R Q pre ord a C) : (Code.region id ops true).wpIn (Fence.wide.inRound l) 0 P Q a w := by
  simp only [okB, Bool.and_eq_true, decide_eq_true_eq] at hB
  obtain ⟨hdf, ⟨⟨⟨⟨h1, h2⟩, h3⟩, h4⟩, h5⟩, h6⟩ := hB
  refine wpIn_region_any hm (wpAnyIn_of hq hdf _ _ _ _ (wpAny_of_wpK (R := R) (pre := pre) _ _ _ C _ ?_ hs hC))
  refine wpK_of_ord h1 h2 h3 h4 ord _ _ a C (by simp) (fun j i hj hi hl _ => ?_) h5 h6 h
  simp [hj] at hl

end Go.Sx
