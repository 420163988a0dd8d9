/-
  Walks of chain: a graph in the making; newGraph's join.
-/
import Derived.Test.YtgfaiihekibcbaaGreatDoorGpG1
set_option maxRecDepth 100000
set_option linter.unusedVariables false
namespace Go.Sx
open Go.RowKit
/-- What lies below B stays but, maybe, block g. -/
structure Kg (B g : Nat) (w w' : World) : Prop where
  os : w'.os = w.os
  tape : w'.tape = w.tape
  output : w'.output = w.output
  size : w.heap.size ≤ w'.heap.size
  kept : ∀ b, b < B → b < w.heap.size → b ≠ g → w'.heap[b]? = w.heap[b]?
theorem Kg.refl (B g : Nat) (w : World) : Kg B g w w := ⟨rfl, rfl, rfl, Nat.le_refl _, fun _ _ _ _ => rfl⟩
theorem Kg.trans {B g : Nat} {a b c : World} (h : Kg B g a b) (k : Kg B g b c) : Kg B g a c :=
  ⟨k.os.trans h.os, k.tape.trans h.tape, k.output.trans h.output, Nat.le_trans h.size k.size, fun x h1 h2 h3 => (k.kept x h1 (Nat.lt_of_lt_of_le h2 h.size) h3).trans (h.kept x h1 h2 h3)⟩
theorem Ext.kg {a b : World} (h : Ext a b) (B g : Nat) : Kg B g a b := ⟨h.os, h.tape, h.output, h.size, fun x _ hx _ => h.block x hx⟩
theorem Ks.kg {S : List Nat} {w w' : World} (h : Ks S w w') {B g : Nat} (hS : ∀ b ∈ S, B ≤ b ∨ b = g) : Kg B g w w' :=
  ⟨h.os, h.tape, h.output, h.size, fun x h1 h2 h3 => h.kept x h2 (fun hm => by rcases hS x hm with e | e <;> omega)⟩
theorem Kg.setCell {B g : Nat} {a w : World} (h : Kg B g a w) (j : Nat) (u : Value) : Kg B g a (w.setCell ⟨g, j, none⟩ u) :=
  ⟨h.os, h.tape, h.output, by simpa using h.size, fun x h1 h2 h3 => (Below.heap_setCell w ⟨g, j, none⟩ u x (fun e => h3 e)).trans (h.kept x h1 h2 h3)⟩
theorem Kg.at {B g : Nat} {w w' : World} (h : Kg B g w w') {k : Nat} {o : Obj} (hk : w.heap[k]? = some o) (hB : k < B) (hne : k ≠ g) : w'.heap[k]? = some o := (h.kept k hB (Array.getElem?_eq_some_iff.1 hk).1 hne).trans hk
theorem Kg.below {B g : Nat} {w w' : World} (h : Kg B g w w') {C : Nat} (h1 : C ≤ w.heap.size) (h2 : C ≤ B) (h3 : C ≤ g) : Below C w w' :=
  ⟨h.os, h.tape, h.output, h.size, fun b hb => h.kept b (by omega) (by omega) (by omega)⟩
end Go.Sx
namespace Go.Proofs.YtgfaiihekibcbaaGreatDoor
open Go.RowKit Go.Sx Go.Sx.Sz Go.Sx.Sc Go.Sx.Po Go.Sx.Ch

theorem et_ed : ET Tryz.prog 74 76 9 72 := .mk' (z := .agg #[.int .i64 0, .int .i64 0, .int .i64 0, .int .i64 0, .int .i64 0, .int .i64 0, .int .i64 0, .int .i64 0, .int .i64 0]) Tryz.underlying74 (by kernel_rfl) rfl (by decide) (by decide)
def enc1 (v : Value) : List Value := [v]
/-- A graph in the making: a block of rows, each a row of the call's own. -/
structure Gph (B gb : Nat) (vs : List Value) (rows : Nat → List Ed) (w : World) : Prop where
  blk : Bk w gb 74 enc1 vs
  row : ∀ i (h : i < vs.length), OwnR w B 76 9 encE vs[i] (rows i)
  apart : ∀ i j (hi : i < vs.length) (hj : j < vs.length), i ≠ j → ∀ g, vs[i].ownBlock = some g → vs[j].ownBlock ≠ some g
  lt : gb < B
def addE (rows : Nat → List Ed) (i : Nat) (e : Ed) : Nat → List Ed := fun n => if n = i then rows n ++ [e] else rows n
section
variable {B gb : Nat} {vs : List Value} {rows : Nat → List Ed} {w : World}
theorem Gph.ext {w' : World} (h : Gph B gb vs rows w) (x : Ext w w') : Gph B gb vs rows w' := ⟨h.blk.ext x, fun i hi => (h.row i hi).ext x, h.apart, h.lt⟩
theorem Gph.head (h : Gph B gb vs rows w) {i : Nat} (hi : i < vs.length) : w.cell? ⟨gb, i, none⟩ = some vs[i] ∧ w.frozen? ⟨gb, i, none⟩ = false := by
  refine ⟨?_, h.blk.free i⟩
  have := h.blk.cell (sz := 1) (fun _ _ => rfl) i 0 hi (by omega)
  simpa [enc1] using this
theorem Gph.own_ne (h : Gph B gb vs rows w) {i : Nat} (hi : i < vs.length) {b : Nat} (hb : b < B) : vs[i].ownBlock ≠ some b := (h.row i hi).apart_below hb
theorem Gph.push {w' : World} {i : Nat} {v' : Value} {e : Ed} (h : Gph B gb vs rows w) (hi : i < vs.length) (o : OwnR w' B 76 9 encE v' (rows i ++ [e])) (A : Appd w w' vs[i] v') :
    Gph B gb (vs.set i v') (addE rows i e) (w'.setCell ⟨gb, i, none⟩ v') := by
  have hv' : v'.ownBlock ≠ some gb := o.apart_below h.lt
  have hb' : Bk w' gb 74 enc1 vs := by
    obtain ⟨cs, h1, h2⟩ := h.blk
    exact ⟨cs, A.block h1 (h.own_ne hi h.lt), h2⟩
  refine ⟨?_, fun j hj => ?_, fun j k hj hk hjk g => ?_, h.lt⟩
  · have := hb'.put (sz := 1) (fun _ _ => rfl) v' rfl i hi
    rw [Nat.mul_one] at this
    exact this
  · have hj' : j < vs.length := by simpa using hj
    rw [List.getElem_set]
    unfold addE
    by_cases e : i = j
    · subst e
      rw [if_pos rfl, if_pos rfl]
      exact o.stay hv' v'
    · rw [if_neg e, if_neg (fun h => e h.symm)]
      exact ((h.row j hj').appd A (fun g hg => h.apart j i hj' hi (fun h => e h.symm) g hg)).stay (h.own_ne hj' h.lt) v'
  · have hj' : j < vs.length := by simpa using hj
    have hk' : k < vs.length := by simpa using hk
    have far : ∀ m (hm : m < vs.length), m ≠ i → ∀ g, v'.ownBlock = some g → vs[m].ownBlock ≠ some g := fun m hm hmi g hg hg2 => by
      rcases A.place with e | ⟨b, e, hb⟩
      · rw [e] at hg
        exact h.apart i m hi hm (fun h => hmi h.symm) g hg hg2
      · rw [e] at hg; cases hg
        have := (World.ownsRow.lt (h.row m hm) g hg2).2
        omega
    rw [List.getElem_set, List.getElem_set]
    by_cases e1 : i = j
    · subst e1
      rw [if_pos rfl, if_neg hjk]
      exact far k hk' (fun h => hjk h.symm) g
    · rw [if_neg e1]
      by_cases e2 : i = k
      · subst e2
        rw [if_pos rfl]
        exact fun hg hg2 => far j hj' (fun h => e1 h.symm) g hg2 hg
      · rw [if_neg e2]
        exact h.apart j k hj' hk' hjk g
end
end Go.Proofs.YtgfaiihekibcbaaGreatDoor
