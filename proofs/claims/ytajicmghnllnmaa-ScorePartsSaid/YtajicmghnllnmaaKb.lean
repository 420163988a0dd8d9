/-
  What a step keeps that may write into one row of the call's own.
-/
import Derived.Test.YtajicmghnllnmaaRg
import Derived.Test.YtajicmghnllnmaaDx
import Derived.Laws.CopyOwn
set_option linter.unusedVariables false
namespace Go.Sx
open Go.RowKit

/-- Nothing that was there has turned but, maybe, block g. -/
structure Kb (g : Option Nat) (w w' : World) : Prop where
  os : w'.os = w.os
  tape : w'.tape = w.tape
  output : w'.output = w.output
  size : w.heap.size ≤ w'.heap.size
  kept : ∀ b, b < w.heap.size → some b ≠ g → w'.heap[b]? = w.heap[b]?

theorem Kb.refl (g : Option Nat) (w : World) : Kb g w w := ⟨rfl, rfl, rfl, Nat.le_refl _, fun _ _ _ => rfl⟩
theorem Kb.trans {g : Option Nat} {a b c : World} (h : Kb g a b) (k : Kb g b c) : Kb g a c :=
  ⟨k.os.trans h.os, k.tape.trans h.tape, k.output.trans h.output, Nat.le_trans h.size k.size, fun x hx hg => (k.kept x (Nat.lt_of_lt_of_le hx h.size) hg).trans (h.kept x hx hg)⟩
theorem Ext.kb {a b : World} (h : Ext a b) (g : Option Nat) : Kb g a b := ⟨h.os, h.tape, h.output, h.size, fun x hx _ => h.block x hx⟩
theorem Kb.drawn (g : Option Nat) (w : World) (n : Nat) : Kb g w { w with drawn := n } := ⟨rfl, rfl, rfl, Nat.le_refl _, fun _ _ _ => rfl⟩
theorem Appd.kb {w w' : World} {v v' : Value} (h : Appd w w' v v') : Kb v.ownBlock w w' := ⟨h.os, h.tape, h.output, h.size, fun b hb hg => h.kept b hb hg⟩
theorem stable_kb (g : Option Nat) (w0 : World) : Stable (Kb g) (Kb g w0) := fun _ _ h k => h.trans k
theorem Kb.below {g : Option Nat} {w w' : World} (h : Kb g w w') {B : Nat} (hB : B ≤ w.heap.size) (hg : ∀ b, g = some b → B ≤ b) : Below B w w' :=
  ⟨h.os, h.tape, h.output, h.size, fun b hb => h.kept b (by omega) (fun e => by have := hg b e.symm; omega)⟩
theorem Kb.cell {g : Option Nat} {w w' : World} (h : Kb g w w') {p : Addr} {v : Value} (hc : w.cell? p = some v) (hg : some p.block ≠ g) : w'.cell? p = some v := by
  rw [← hc]
  exact World.cell?_of_block (h.kept p.block (lt_of_cell hc) hg)
theorem kb_cells {g : Option Nat} {w0 : World} {p : Addr} {v : Value} (h : w0.cell? p = some v) (hg : some p.block ≠ g) : ∀ w, Kb g w0 w → w.cell? p = some v := fun _ k => k.cell h hg
theorem sub_kb (g : Option Nat) : ∀ w w', Ext w w' → Kb g w w' := fun _ _ h => h.kb g
theorem stable_sl1 (B : Nat) (e : TypeId) (cs : Array Value) (v : Value) : Stable Ext (Sl1 B e cs v) := Sl1.stable B e cs v
theorem stable_and {R : World → World → Prop} {C D : World → Prop} (h : Stable R C) (k : Stable R D) : Stable R (fun w => C w ∧ D w) := fun a b x y => ⟨h a b x.1 y, k a b x.2 y⟩

/-- A store of a whole struct into a variable. -/
theorem wpList_store_row {P : Program} {ops : Array Oper} {rest : List Oper} {o : Oper} {a : Act} {w : World} {Q : Exit → Act → World → Prop} (hgd : o.guard = none) (ty : TypeId) (x y : Operand) (ho : o.op = .store ty x y)
    (g : Nat) (cells : Array Value) (hx : a.eval x = .pointer (some ⟨g, 0, none⟩)) (hy : a.eval y = .agg cells)
    (t : TypeId) (old : Array Value) (hg : w.heap[g]? = some (.cells old t (0, 0))) (hi : (P.info? ty).map (·.size) = some cells.size)
    (hold : old.size = cells.size) (h1 : cells.all (·.oneCell') = true)
    (h : wpList P ops Q rest (a.put o.dst undef) (w.setRow g cells)) : wpList P ops Q (o :: rest) a w :=
  wpList_plain hgd fun K hK => wp_store_row ty x y ho g cells hx hy t old hg hi hold h1 (hK _ _ h)

theorem row_at {w : World} {g : Nat} {cs : Array Value} {t : TypeId} {fr : Nat × Nat} (h : w.heap[g]? = some (.cells cs t fr)) (j : Nat) (u : Value) (hu : cs.toList[j]? = some u) : w.cell? ⟨g, j, none⟩ = some u := by
  unfold World.cell?
  simp only [h]
  simpa using hu
theorem setRow_at {w : World} {g : Nat} {old : Array Value} {t : TypeId} {fr : Nat × Nat} (hg : w.heap[g]? = some (.cells old t fr)) (cs : Array Value) : (w.setRow g cs).heap[g]? = some (.cells cs t fr) := setRow_heap w g old cs t fr hg
theorem setRow_ne {w : World} {g k : Nat} {o : Obj} (h : w.heap[k]? = some o) (hk : k ≠ g) (cs : Array Value) : (w.setRow g cs).heap[k]? = some o := (setRow_other w g k cs hk).trans h
theorem Ext.setRow {a w : World} (h : Ext a w) {g : Nat} (hg : a.heap.size ≤ g) (cs : Array Value) : Ext a (w.setRow g cs) := below_setRow h hg cs
theorem Below.setRow' {B : Nat} {a w : World} (h : Below B a w) {g : Nat} (hg : B ≤ g) (cs : Array Value) : Below B a (w.setRow g cs) := below_setRow h hg cs
theorem OwnR.setRow {α : Type} {w : World} {B : Nat} {e : TypeId} {sz : Nat} {enc : α → List Value} {v : Value} {xs : List α} (h : OwnR w B e sz enc v xs) {g : Nat} (hg : v.ownBlock ≠ some g) (cs : Array Value) : OwnR (w.setRow g cs) B e sz enc v xs := by
  obtain ⟨h1, h2⟩ := h
  refine ⟨h1, h2.imp id fun ⟨k, cap, cur, a, b, c, d⟩ => ⟨k, cap, cur, a, b, ?_, d⟩⟩
  rw [setRow_other w g k cs (fun e => hg (by rw [a, ← e]; rfl))]
  exact c
theorem OwnR.apart_below {α : Type} {w : World} {B : Nat} {e : TypeId} {sz : Nat} {enc : α → List Value} {v : Value} {xs : List α} (h : OwnR w B e sz enc v xs) {g : Nat} (hg : g < B) : v.ownBlock ≠ some g := fun e => by
  have := (World.ownsRow.lt h g e).1; omega

/-- append of one new row, in a region that draws. -/
theorem opR_own_app {α : Type} {w : World} {B : Nat} {e : TypeId} {sz : Nat} {enc : α → List Value} {v : Value} {xs : List α} {P : Program} {t : TypeId} {bytes : Nat} (E : ET P t e sz bytes) {o : Oper} {a : Act} {K : Value → World → Prop} (s x : Operand)
    (ho : o.op = .call { callee := .builtin .append, args := #[s, x], argTypes := #[t, t] })
    (hown : OwnR w B e sz enc v xs) (hs : a.eval s = v) (ys : List α) (ad : Addr) (c : Nat) (hx : a.eval x = .slice (some ad) ys.length c) (hl : ∀ y ∈ ys, (enc y).length = sz)
    (hnews : ∀ j u, (ys.flatMap enc)[j]? = some u → w.cell? (ad.add j) = some u) (h1 : ∀ y ∈ ys, ∀ u ∈ enc y, u.oneCell' = true)
    (hbytes : (xs.length + ys.length) * bytes ≤ 140737488355328) (hbase : B ≤ w.heap.size)
    (h : ∀ v' w', OwnR w' B e sz enc v' (xs ++ ys) → Below B w w' → Appd w w' v v' → K v' w') : opR P o a w K := by
  obtain ⟨ht, ⟨i, z, hi, hz, hsz, hby, hzs⟩, hs0, hb0⟩ := E
  have hlen : (ys.flatMap enc).length = ys.length * sz := by
    clear hnews hbytes h hx h1
    induction ys with
    | nil => simp
    | cons y ys ih => rw [List.flatMap_cons, List.length_append, hl y (by simp), ih (fun z hz => hl z (by simp [hz])), List.length_cons, Nat.succ_mul]; omega
  have hn : xs.length + ys.length ≤ (xs.length + ys.length) * bytes := Nat.le_mul_of_pos_right _ hb0
  have h63 : xs.length + ys.length ≤ maxLen := by simp only [maxLen]; omega
  have h1' : ∀ u ∈ ys.flatMap enc, u.oneCell' = true := fun u hu => by obtain ⟨y, hy, hu⟩ := List.mem_flatMap.1 hu; exact h1 y hy u hu
  obtain ⟨v', w', hr, h2, h3, h4⟩ := run_append_own (P := P) w B t o.type e i z sz bytes ht hi hz hsz hby hzs hs0 v xs.length _ hown ad ys.length c _ hlen hnews h1' h63 hbytes hbase
  have hp := append_place w B t o.type e i z sz bytes ht hi hz hsz hby hzs hs0 v xs.length _ hown ad ys.length c _ hlen hnews h1' h63 hbytes v' w' hr
  unfold opR execOp
  simp only [ho, resolve, invoke, builtin, Sem.run_bind, Sem.run_pure, Result.andThen_ok, List.map_toArray, List.map_cons, List.map_nil, hs, hx, hr]
  refine h v' w' ?_ ?_ ⟨fun b hb hne => h3.block b hb hne, hp, h3.size, h3.os, h3.tape, h3.output⟩
  · unfold OwnR; rw [List.length_append, List.flatMap_append]; exact h2
  · exact (Below.refl B w).grown h3 hbase fun k hk => (World.ownsRow.lt hown k hk).1
end Go.Sx
