/-
  The map of the best steps: what its block says.
-/
import Derived.Test.YthpfalbeieloaaaGreatDoorAlE
import Derived.Test.YthpfalbeieloaaaGreatDoorAlP
import Derived.Test.YthpfalbeieloaaaGreatDoorMat
import Derived.Test.YthpfalbeieloaaaGreatDoorLibA
import Derived.Maps.OwnIn
import Derived.Maps.OwnSet
import Derived.Maps.Views
import Derived.WideKeyPair
import Derived.DeepKeys4
set_option maxRecDepth 100000
set_option linter.unusedVariables false
namespace Go.Proofs.YthpfalbeieloaaaGreatDoor
open Go.RowKit Go.Sx Go.Sx.Sz Go.Sx.Al Go.WideMaps

theorem laidOut : laidOutB Tryz.prog = true := by kernel_rfl
theorem arr2 : ArrKey Tryz.prog 99 3 2 := ⟨Tryz.underlying99, by kernel_rfl, by kernel_rfl, by kernel_rfl⟩
theorem keyed2 : Maps.Keyed Tryz.prog 99 := Maps.Keyed.of_law (deep_law_laid laidOut (m := 2) (by omega) (of_decide_eq_true (by kernel_rfl)) (by kernel_rfl) (by rw [Tryz.underlying99]))
def klit (a c : Nat) : Lit := .string (keyBytes [.int .i64 a, .int .i64 c])
theorem key2 {a c : Nat} (ha : a ≤ 1000) (hc : c ≤ 1000) : keyOf Tryz.prog 99 (.agg #[.int .i64 a, .int .i64 c]) = some (klit a c) :=
  keyOf_pair arr2 Tryz.underlying3 ⟨Tryz.prog.types.size - 1, by kernel_rfl⟩ (WalkArith.wf_i64 (by omega)) (WalkArith.wf_i64 (by omega))
theorem klit_ne {a c a' c' : Nat} (ha : a ≤ 1000) (hc : c ≤ 1000) (ha' : a' ≤ 1000) (hc' : c' ≤ 1000) (h : ¬ (a = a' ∧ c = c')) : klit a c ≠ klit a' c' := fun e => by
  have := keyed2.inj (key2 ha hc) ((key2 ha' hc').trans (by rw [e]))
  simp only [Value.agg.injEq, Array.mk.injEq, List.cons.injEq, Value.int.injEq, true_and, and_true] at this
  exact h ⟨by omega, by omega⟩
theorem klit_key {a c : Nat} (ha : a ≤ 1000) (hc : c ≤ 1000) : WideAt.IsKeyLit (klit a c) := keyed2.key (key2 ha hc)

def mvV (s : Mv) : Value := .agg #[.int .i64 s.d, .int .i64 s.h, s.f]
def mv3 (f g : Value) (k : Nat) : Mv := match k with | 0 => ⟨1, 1, f⟩ | 1 => ⟨1, 0, g⟩ | _ => ⟨0, 1, g⟩
/-- How a step reads: by its number. -/
noncomputable def stR (f g : Value) (v : Value) : Option (DataW Unit × List MemPlace) :=
  open Classical in
  if v = mvV (mv3 f g 0) then some (.lit (.int .i64 0), []) else if v = mvV (mv3 f g 1) then some (.lit (.int .i64 1), []) else if v = mvV (mv3 f g 2) then some (.lit (.int .i64 2), []) else some (.lit (.int .i64 3), [])
theorem stR_mk (f g : Value) {k : Nat} (hk : k < 3) : stR f g (mvV (mv3 f g k)) = some (.lit (.int .i64 k), []) := by
  unfold stR
  obtain rfl | rfl | rfl : k = 0 ∨ k = 1 ∨ k = 2 := by omega
  · rw [if_pos rfl]; rfl
  · rw [if_neg (by simp [mvV, mv3]), if_pos rfl]; rfl
  · rw [if_neg (by simp [mvV, mv3]), if_neg (by simp [mvV, mv3]), if_pos rfl]; rfl
theorem stR_inv {f g v : Value} {k : Nat} {ps : List MemPlace} (hk : k < 3) (h : stR f g v = some (.lit (.int .i64 k), ps)) : v = mvV (mv3 f g k) := by
  unfold stR at h
  split at h
  · rename_i e; simp at h; obtain ⟨h, _⟩ := h; have : k = 0 := by omega
    subst this; exact e
  · split at h
    · rename_i e; simp at h; obtain ⟨h, _⟩ := h; have : k = 1 := by omega
      subst this; exact e
    · split at h
      · rename_i e; simp at h; obtain ⟨h, _⟩ := h; have : k = 2 := by omega
        subst this; exact e
      · simp at h; omega
theorem stR_some (f g v : Value) : ∃ d, stR f g v = some (d, []) := by
  unfold stR
  split
  · exact ⟨_, rfl⟩
  · split
    · exact ⟨_, rfl⟩
    · split <;> exact ⟨_, rfl⟩

/-- Block b is a map of at most cnt entries that holds, for each cell that S knows, the step with that number. -/
def Mp (f g : Value) (b cnt : Nat) (S : Nat → Nat → Option Nat) (w : World) : Prop :=
  ∃ D : DataW Unit, w.ownsMap Tryz.prog 99 (stR f g) b cnt D ∧ ∀ a c k, a ≤ 1000 → c ≤ 1000 → S a c = some k → k < 3 ∧ ∀ z, D.atKey (klit a c) z = .lit (.int .i64 k)

section
variable {f g : Value} {b cnt : Nat} {S : Nat → Nat → Option Nat} {w w' : World}
theorem Mp.made (w : World) (f g : Value) : Mp f g w.heap.size 0 (fun _ _ => none) (w.alloc (.map #[] 0)) :=
  ⟨_, World.ownsMap_made w _ _ _, fun a c k _ _ h => by cases h⟩
theorem Mp.lt (h : Mp f g b cnt S w) : b < w.heap.size := by obtain ⟨D, h1, _⟩ := h; exact h1.lt
theorem Mp.isMap (h : Mp f g b cnt S w) : ∃ o, w.heap[b]? = some o ∧ o.isCells = false := by obtain ⟨D, ⟨es, cl, h1, _⟩, _⟩ := h; exact ⟨_, h1, rfl⟩
theorem Mp.kept (h : Mp f g b cnt S w) (hb : w'.heap[b]? = w.heap[b]?) : Mp f g b cnt S w' := by
  obtain ⟨D, ⟨es, cl, h1, h2⟩, h3⟩ := h
  exact ⟨D, ⟨es, cl, hb.trans h1, h2⟩, h3⟩
theorem Mp.ext (h : Mp f g b cnt S w) (x : Ext w w') : Mp f g b cnt S w' := h.kept (x.block b h.lt)
theorem Mp.setCell (h : Mp f g b cnt S w) (p : Addr) (v : Value) (hp : b ≠ p.block) : Mp f g b cnt S (w.setCell p v) := h.kept (Below.heap_setCell _ _ _ _ hp)
theorem Mp.same {l : Nat} (h : Mp f g b cnt S w) (s : Same l w w') (hl : b ≠ l) : Mp f g b cnt S w' := by
  obtain ⟨o, o', _, _, _, rfl⟩ := s
  exact h.kept (World.putObj_heap_other hl)
theorem Mp.look (h : Mp f g b cnt S w) {a c k : Nat} (ha : a ≤ 1000) (hc : c ≤ 1000) (hS : S a c = some k) :
    (Instr.lookup 92 (.map (some b)) (.agg #[.int .i64 a, .int .i64 c]) false).run Tryz.prog w = .ok (mvV (mv3 f g k)) w := by
  obtain ⟨D, h1, h2⟩ := h
  obtain ⟨hk, h2⟩ := h2 a c k ha hc hS
  have hz : (zeroValue 98).run Tryz.prog w = .ok (.agg #[.int .i64 0, .int .i64 0, .nilFunc]) w := by kernel_rfl
  obtain ⟨d, hd⟩ := stR_some f g (.agg #[.int .i64 0, .int .i64 0, .nilFunc])
  obtain ⟨v, ps, hr, hv⟩ := h1.lookup keyed2 Tryz.underlying92 hz hd (key2 ha hc)
  rw [h2] at hv
  rw [hr, stR_inv hk hv]
theorem Mp.mono {S' : Nat → Nat → Option Nat} {cnt' : Nat} (h : Mp f g b cnt S w) (hc : cnt ≤ cnt') (hS : ∀ a c k, S' a c = some k → S a c = some k) : Mp f g b cnt' S' w := by
  obtain ⟨D, h1, h2⟩ := h
  exact ⟨D, h1.mono hc, fun a c k ha hc hk => h2 a c k ha hc (hS a c k hk)⟩
theorem _root_.Go.Sx.Abide.mp {B : Nat} (hb : b < B) : Abide B (fun W => Mp f g b cnt S W) := ⟨fun _ _ h x => h.ext x, fun _ _ l h hl s => h.same s (by omega)⟩
theorem _root_.Go.Sx.Abide.mat {B B' m gg : Nat} {rows : List Nat} {T : Nat → Nat → Int} : Abide B (fun W => Mat B' gg rows m T W) := ⟨fun _ _ h x => h.ext x, fun _ _ _ h _ s => h.same s⟩
/-- The cells that S knows, and one more. -/
def upS (S : Nat → Nat → Option Nat) (i j k : Nat) : Nat → Nat → Option Nat := fun a c => if a = i ∧ c = j then some k else S a c
theorem Mp.put {D : DataW Unit} {a c k : Nat} (hD : ∀ a c k, a ≤ 1000 → c ≤ 1000 → S a c = some k → k < 3 ∧ ∀ z, D.atKey (klit a c) z = .lit (.int .i64 k)) (hm : Maps.IsMap D) (ha : a ≤ 1000) (hc : c ≤ 1000) (hk : k < 3)
    (hown : w'.ownsMap Tryz.prog 99 (stR f g) b cnt (D.put (klit a c) (.lit (.int .i64 k)))) : Mp f g b cnt (upS S a c k) w' := by
  refine ⟨_, hown, fun x y q hx hy hq => ?_⟩
  unfold upS at hq
  split at hq
  · rename_i e
    obtain ⟨rfl, rfl⟩ := e
    cases hq
    exact ⟨hk, fun z => Maps.atKey_put_same hm (klit_key ha hc) _ z⟩
  · rename_i e
    obtain ⟨h1, h2⟩ := hD x y q hx hy hq
    exact ⟨h1, fun z => by rw [Maps.atKey_put_other (klit_ne hx hy ha hc e)]; exact h2 z⟩
end
theorem _root_.Go.Sx.Bk.kept {α : Type} {w w' : World} {g : Nat} {e : TypeId} {enc : α → List Value} {xs : List α} (h : Bk w g e enc xs) (hb : w'.heap[g]? = w.heap[g]?) : Bk w' g e enc xs := by
  obtain ⟨cs, h1, h2⟩ := h; exact ⟨cs, hb.trans h1, h2⟩
theorem Mat.grown {B g m b : Nat} {rows : List Nat} {T : Nat → Nat → Int} {w w' : World} (M : Mat B g rows m T w) (h : w.grownBy w' (some b)) (hg : g ≠ b) (hr : ∀ r ∈ rows, r ≠ b) : Mat B g rows m T w' :=
  ⟨M.blk.kept (h.block g M.blk.lt (fun e => hg (Option.some.inj e))), M.nd, M.ge, fun i hi => (M.row i hi).kept (h.block _ (M.row i hi).lt (fun e => hr _ (List.getElem_mem hi) (Option.some.inj e)))⟩
theorem below_grown {B b : Nat} {w w' : World} (h : w.grownBy w' (some b)) (hB : B ≤ b) (hs : B ≤ w.heap.size) : Below B w w' :=
  ⟨h.os, h.tape, h.output, h.size, fun k hk => h.block k (by omega) (fun e => by have := Option.some.inj e; omega)⟩
theorem _root_.Go.KeepsFrom.of_kb {B r : Nat} {w w' : World} (h : Kb (some r) w w') (hr : ∀ o, w.heap[r]? = some o → o.isCells = true) : KeepsFrom B w w' :=
  ⟨h.size, fun k o hB hk ho => (h.kept k (Array.getElem?_eq_some_iff.1 hk).1 (fun e => by
    have := Option.some.inj e; subst this
    rw [hr o hk] at ho; cases ho)).trans hk⟩
/-- The relation of a region that stores into row r: all else stays, A stays, and N stays once it holds. -/
def Rw (r : Nat) (A N : World → Prop) (w w' : World) : Prop := Kb (some r) w w' ∧ (A w → A w') ∧ (N w → N w')
theorem Rw.refl {r : Nat} {A N : World → Prop} (w : World) : Rw r A N w w := ⟨Kb.refl _ _, id, id⟩
def Cw (r : Nat) (A : World → Prop) (w0 w : World) : Prop := Kb (some r) w0 w ∧ A w
theorem stable_cw {r : Nat} {A N : World → Prop} {w0 : World} : Stable (Rw r A N) (Cw r A w0) := fun _ _ h k => ⟨h.1.trans k.1, k.2.1 h.2⟩
theorem mv3_d (f g : Value) (k : Nat) : (mv3 f g k).d = (mD k : Int) := by
  match k with
  | 0 => rfl
  | 1 => rfl
  | _ + 2 => rfl
theorem mv3_h (f g : Value) (k : Nat) : (mv3 f g k).h = (mH k : Int) := by
  match k with
  | 0 => rfl
  | 1 => rfl
  | _ + 2 => rfl
theorem mD_le (k : Nat) : mD k ≤ 1 := by
  match k with
  | 0 => exact Nat.le_refl _
  | 1 => exact Nat.le_refl _
  | _ + 2 => exact Nat.zero_le _
theorem mH_le (k : Nat) : mH k ≤ 1 := by
  match k with
  | 0 => exact Nat.le_refl _
  | 1 => exact Nat.zero_le _
  | _ + 2 => exact Nat.le_refl _
theorem mDH (k : Nat) : 1 ≤ mD k + mH k := by
  match k with
  | 0 => exact Nat.le_succ _
  | 1 => exact Nat.le_refl _
  | _ + 2 => exact Nat.le_refl _

/-- The price function of a step. -/
theorem step_fn {pd ph ps pq pp : Nat} {ds : List Due} {hs : List Hrd} {p : Prc} (hv : AlOk ds hs p) {w : World} (C : PrC pd ph ps pq ds hs p w) (sk : w.cell? ⟨pp, 0, none⟩ = some (.int .i64 p.skip)) (i j k : Nat) :
    ∃ fn cap, (mv3 (prV pd ph ps pq) (skV pp) k).f = .func (.func fn) #[] cap ∧ (∀ args w, (callFunc fn args).run Tryz.prog w = .ok (.enter fn args) w) ∧ (stOk ds hs i j k → ∀ w', Ext w w' → Calls Tryz.prog fn (#[.int .i64 i, .int .i64 j] ++ cap) w' fun e w'' => e = .returned (.int .i64 (stC ds hs p i j k)) ∧ Ext w' w'') := by
  match k with
  | 0 =>
    refine ⟨71, _, rfl, enters_of Tryz.func71 (by kernel_rfl) rfl, fun h w' x => ?_⟩
    have h1 : i < ds.length := h.1
    have h2 : j < hs.length := h.2
    have := price_walk pd ph ps pq ds hs p hv i j h1 h2 w' (C.ext x)
    rw [← mcT_eq ds hs p h1 h2] at this
    exact this
  | k + 1 =>
    refine ⟨48, #[.pointer (some ⟨pp, 0, none⟩)], by cases k <;> rfl, enters_of Tryz.func48 (by kernel_rfl) rfl, fun h w' x => ?_⟩
    exact skip_walk pp p _ _ w' (x.cell sk)
theorem kb_set (w : World) (r j : Nat) (v : Value) : Kb (some r) w (w.setCell ⟨r, j, none⟩ v) :=
  ⟨rfl, rfl, rfl, by simp, fun b _ hb => Below.heap_setCell _ _ _ _ (fun e => hb (congrArg some e))⟩
theorem _root_.Go.Boxed.kb {r b : Nat} {t : TypeId} {v : Value} {w w' : World} (h : Boxed w b t v) (k : Kb (some r) w w') (hb : b ≠ r) : Boxed w' b t v := (k.kept b h.lt (fun e => hb (Option.some.inj e))).trans h
theorem Mp.kb {f g : Value} {b cnt r : Nat} {S : Nat → Nat → Option Nat} {w w' : World} (h : Mp f g b cnt S w) (k : Kb (some r) w w') (hb : b ≠ r) : Mp f g b cnt S w' := h.kept (k.kept b h.lt (fun e => hb (Option.some.inj e)))
end Go.Proofs.YthpfalbeieloaaaGreatDoor
