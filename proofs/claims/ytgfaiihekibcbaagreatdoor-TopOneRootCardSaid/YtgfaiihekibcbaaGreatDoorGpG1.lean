/-
  The third law of drawn regions in a round; what is kept, for appends and stores in one region.
-/
import Derived.Test.YtgfaiihekibcbaaGreatDoorGpF
set_option maxRecDepth 100000
set_option linter.unusedVariables false
namespace Go.Sx
open Go.RowKit
variable {P : Program}
theorem wpIn_region_ordY {lp : Nat} {ops : Array Oper} {Q : Exit → Act → World → Prop} {id : Nat} {a : Act} {w : World} (l : List (Nat × Y.Kd)) (pre : Nat) (R1 R2 : World → World → Prop) (Cd C : World → Prop) (hm : P.follows .mixedOrders = true) (ix : List (Nat × Bool)) (nd : List (Nat × List Nat)) (hB : (noDefer ops && okB .any ops pre ix (befB ops)) = true) (hN : Y.leansB .any ops nd = true) (hq : ¬ LetsOut Q)
    (hix : l.map (fun x => (x.1, !x.2.alone)) = ix) (hndd : l.map (fun x => (x.1, x.2.need)) = nd) (hal : ∀ x ∈ l, ∀ k ∈ x.2.need, (Y.kdOf l k).alone = false) (hnd : (ix.map (·.1)).Nodup) (sub : ∀ w w', R1 w w' → R2 w w') (hcd : Stable R2 Cd) (hs : Stable R1 C)
    (h1 : Cd { w with drawn := w.drawn + 1 }) (h2 : C { w with drawn := w.drawn + 1 }) (h : Y.ordX P ops R1 R2 Cd (Y.kdOf l) Q pre l (fun _ => undef) a C (fun _ => True)) : (Code.region id ops true).wpIn (Fence.wide.inRound lp) 0 P Q a w := by
  have N := Y.leans_of hN hndd hal
  subst hix
  simp only [okB, Bool.and_eq_true, decide_eq_true_eq] at hB
  obtain ⟨hdf, ⟨⟨⟨⟨b1, b2⟩, b3⟩, b4⟩, b5⟩, b6⟩ := hB
  have hkd := Y.ordX_stab _ _ _ _ _ h
  refine wpIn_region_any hm (wpAnyIn_of hq hdf _ _ _ _ (Y.wpAny_of_wpX (R1 := R1) (R2 := R2) (Cd := Cd) (kd := Y.kdOf l) (pre := pre) ⟨sub, hcd, fun i => (Y.kdOf_all (p := fun k => (k.alone = true → ∀ v, Stable R1 (k.T v)) ∧ (k.alone = false → ∀ v, Stable R2 (k.T v))) ⟨(fun h => by cases h), fun _ _ _ _ _ _ => trivial⟩ hkd i).1,
    fun i => (Y.kdOf_all (p := fun k => (k.alone = true → ∀ v, Stable R1 (k.T v)) ∧ (k.alone = false → ∀ v, Stable R2 (k.T v))) ⟨(fun h => by cases h), fun _ _ _ _ _ _ => trivial⟩ hkd i).2⟩ N _ _ (fun _ => undef) _ C (fun _ => True) _ ?_ hs (fun _ _ _ _ => trivial) h1 h2 trivial ?_ (by simp)))
  · refine Y.wpX_of_ord N b1 b2 b3 b4 l _ _ _ a C _ (Y.kdOf_mem (by rw [List.map_map] at hnd; exact hnd)) (by simp) (fun j i hj hi hl _ => ?_) (by rw [List.length_map] at b5; exact b5) b6 h
    simp [hj] at hl
  · intro i k hk hl
    obtain ⟨_, ok, hok, _⟩ := N.plain i k hk
    have hlt : k < ops.size := (Array.getElem?_eq_some_iff.1 hok).1
    simp [hlt] at hl
theorem Ks.drawn (S : List Nat) (w : World) (n : Nat) : Ks S w { w with drawn := n } := ⟨rfl, rfl, rfl, Nat.le_refl _, fun _ _ _ => rfl⟩
theorem stable_ks (S : List Nat) (w0 : World) : Stable (Ks S) (Ks S w0) := fun _ _ h k => h.trans k
theorem sub_ks (S : List Nat) : ∀ w w', Ext w w' → Ks S w w' := fun _ _ h => h.ks S
theorem Ks.cell {S : List Nat} {w w' : World} (h : Ks S w w') {p : Addr} {v : Value} (hc : w.cell? p = some v) (hg : p.block ∉ S) : w'.cell? p = some v := by
  rw [← hc]
  exact World.cell?_of_block (h.kept p.block (lt_of_cell hc) hg)
theorem ks_cells {S : List Nat} {w0 : World} {p : Addr} {v : Value} (h : w0.cell? p = some v) (hg : p.block ∉ S) : ∀ w, Ks S w0 w → w.cell? p = some v := fun _ k => k.cell h hg
theorem Ks.mono {S T : List Nat} {w w' : World} (h : Ks S w w') (hs : ∀ b ∈ S, b ∈ T) : Ks T w w' := ⟨h.os, h.tape, h.output, h.size, fun b hb hn => h.kept b hb (fun e => hn (hs b e))⟩
theorem Sl1.stableS {S : List Nat} {B : Nat} {e : TypeId} {cs : Array Value} (hS : ∀ b ∈ S, b < B) (v : Value) : Stable (Ks S) (Sl1 B e cs v) := by
  rintro w w' ⟨b, h1, h2, h3⟩ h
  exact ⟨b, h1, h2, h.at h3 (fun hb => by have := hS b hb; omega)⟩
theorem OwnR.ks {α : Type} {w w' : World} {B : Nat} {e : TypeId} {sz : Nat} {enc : α → List Value} {v : Value} {xs : List α} {S : List Nat} (h : OwnR w B e sz enc v xs) (k : Ks S w w') (hne : ∀ b, v.ownBlock = some b → b ∉ S) : OwnR w' B e sz enc v xs :=
  OwnR.stays h fun b hb => k.kept b (World.ownsRow.lt h b hb).2 (hne b hb)
theorem Abide.blk {B b : Nat} {cs : Array Value} {e : TypeId} {z : Nat × Nat} : Abide B (fun W => W.heap[b]? = some (.cells cs e z)) :=
  ⟨fun _ _ h k => (k.block b (Array.getElem?_eq_some_iff.1 h).1).trans h, fun _ _ _ h _ k => k.cells h⟩
theorem Abide.kf {B B' : Nat} {w : World} (h2 : w.heap.size ≤ B) : Abide B (fun W => KeepsFrom B' w W) :=
  ⟨fun _ _ h k => h.trans ((KeepsOthers.ext k).from _), fun _ W' l h hl k => by
    obtain ⟨o, o', h1, h3, h4, rfl⟩ := k
    exact ⟨by simpa using h.size, fun i x hB hi hx => (World.putObj_heap_other (by have := (Array.getElem?_eq_some_iff.1 hi).1; omega)).trans (h.same i x hB hi hx)⟩⟩
theorem Ks.widen {S T : List Nat} {a b c : World} (h : Ks S a b) (k : Ks T b c) (hT : ∀ x ∈ T, x ∈ S ∨ a.heap.size ≤ x) : Ks S a c :=
  ⟨k.os.trans h.os, k.tape.trans h.tape, k.output.trans h.output, Nat.le_trans h.size k.size, fun x hx hn => (k.kept x (Nat.lt_of_lt_of_le hx h.size) (fun hm => by
    rcases hT x hm with e | e
    · exact hn e
    · omega)).trans (h.kept x hx hn)⟩
theorem stable_blk {b : Nat} {cs : Array Value} {e : TypeId} {z : Nat × Nat} : Stable Ext (fun W => W.heap[b]? = some (.cells cs e z)) := fun _ _ h k => (k.block b (Array.getElem?_eq_some_iff.1 h).1).trans h
theorem Sl.le_cap {α : Type} {w : World} {sz : Nat} {enc : α → List Value} {a? : Option Addr} {n cap : Nat} {xs : List α} (h : Sl w sz enc (.slice a? n cap) xs) : n = xs.length ∧ xs.length ≤ cap := by
  obtain ⟨_, _, e, h1, -, -⟩ := h.len
  cases e; exact ⟨rfl, h1⟩
/-- The own block of a row, as a list. -/
def ownL (v : Value) : List Nat := v.ownBlock.toList
theorem mem_ownL {v : Value} {b : Nat} : b ∈ ownL v ↔ v.ownBlock = some b := by
  unfold ownL; cases v.ownBlock <;> simp [eq_comm]
theorem Appd.ks {w w' : World} {v v' : Value} (h : Appd w w' v v') {S : List Nat} (hs : ∀ b, v.ownBlock = some b → b ∈ S) : Ks S w w' :=
  ⟨h.os, h.tape, h.output, h.size, fun b hb hn => h.kept b hb (fun e => hn (hs b e.symm))⟩
theorem Bk.appd {α β : Type} {w w' : World} {g B : Nat} {e e2 : TypeId} {sz : Nat} {enc : α → List Value} {enc2 : β → List Value} {xs : List α} {ys : List β} {v v' : Value} (h : Bk w g e enc xs) (hown : OwnR w B e2 sz enc2 v ys) (hne : e ≠ e2) (A : Appd w w' v v') : Bk w' g e enc xs := by
  obtain ⟨cs, h1, h2⟩ := h
  refine ⟨cs, A.block h1 (fun hv => ?_), h2⟩
  obtain ⟨cs2, h3⟩ := hown.kind hv
  rw [h1] at h3
  cases h3; exact hne rfl
end Go.Sx
