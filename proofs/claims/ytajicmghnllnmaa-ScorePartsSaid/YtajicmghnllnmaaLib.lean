/-
  Small words for my walks: 'Ext' (nothing that was there has turned), 'Sl' (a slice value that reads as a list), owned rows as slices.
-/
import Derived.WalkKit
import Derived.WalkSpells
import Derived.WalkLawsBesides
import Derived.Lib.Hide
import Derived.Shelf.Abstract
import Derived.Test.YtajicmghnllnmaaDr
namespace Go.Sx
open Go.RowKit

/-- Nothing that was there has turned. -/
def Ext (w w' : World) : Prop := Below w.heap.size w w'

theorem Ext.refl (w : World) : Ext w w := Below.refl _ _
theorem Ext.trans {a b c : World} (h : Ext a b) (k : Ext b c) : Ext a c := Below.trans h (Below.mono k h.size)
theorem Ext.drew {a w : World} (h : Ext a w) : Ext a w.drew := Below.drew h
theorem Ext.drawn (w : World) (n : Nat) : Ext w { w with drawn := n } := ⟨rfl, rfl, rfl, Nat.le_refl _, fun _ _ => rfl⟩
theorem Ext.alloc {a w : World} (h : Ext a w) (o : Obj) : Ext a (w.alloc o) := Below.alloc h h.size o
theorem Ext.alloc' (w : World) (o : Obj) : Ext w (w.alloc o) := (Ext.refl w).alloc o
theorem Ext.setCell {a w : World} (h : Ext a w) {p : Addr} (hp : a.heap.size ≤ p.block) (u : Value) : Ext a (w.setCell p u) := Below.setCell h hp u
theorem Ext.below {B : Nat} {w w' : World} (h : Ext w w') (hB : B ≤ w.heap.size) : Below B w w' := Below.mono h hB
theorem Ext.of_below {w w' : World} (h : Below w.heap.size w w') : Ext w w' := h

theorem lt_of_cell {w : World} {p : Addr} {v : Value} (h : w.cell? p = some v) : p.block < w.heap.size := by
  unfold World.cell? at h
  rcases Nat.lt_or_ge p.block w.heap.size with h' | h'
  · exact h'
  · rw [Array.getElem?_eq_none h'] at h; cases h

theorem Ext.cell {w w' : World} (h : Ext w w') {p : Addr} {v : Value} (hc : w.cell? p = some v) : w'.cell? p = some v :=
  (Below.cell h (lt_of_cell hc)).trans hc
theorem Below.cellc {B : Nat} {w w' : World} (h : Below B w w') {p : Addr} {v : Value} (hB : p.block < B) (hc : w.cell? p = some v) : w'.cell? p = some v :=
  (h.cell hB).trans hc

theorem stable_ext (w0 : World) : Stable Ext (Ext w0) := fun _ _ h k => h.trans k

/-- A slice value reads as xs: each element 'sz' cells, given by enc. -/
def Sl {α : Type} (w : World) (sz : Nat) (enc : α → List Value) (v : Value) (xs : List α) : Prop :=
  ∃ a? cap, v = .slice a? xs.length cap ∧ xs.length ≤ cap ∧ cap ≤ maxLen ∧ xs.length ≤ 140737488351232 ∧
    ∀ i (h : i < xs.length), ∃ a, a? = some a ∧ ∀ j, j < sz → w.cell? (a.add (i * sz + j)) = some ((enc xs[i]).getD j undef)

theorem Sl.ext {α : Type} {w w' : World} {sz : Nat} {enc : α → List Value} {v : Value} {xs : List α} (h : Sl w sz enc v xs) (k : Ext w w') : Sl w' sz enc v xs := by
  obtain ⟨a?, cap, rfl, h1, h2, h3, h4⟩ := h
  exact ⟨a?, cap, rfl, h1, h2, h3, fun i hi => let ⟨a, ha, hc⟩ := h4 i hi; ⟨a, ha, fun j hj => k.cell (hc j hj)⟩⟩

theorem spot_none {w : World} {a : Addr} {v : Value} (h : w.cell? a = some v) : a.spot = none := by
  unfold World.cell? at h
  split at h
  · split at h
    · cases h
    · rename_i h'; simpa using h'
  · cases h
theorem Sl.at {α : Type} {w : World} {sz : Nat} {enc : α → List Value} {a? : Option Addr} {n cap : Nat} {xs : List α} (h : Sl w sz enc (.slice a? n cap) xs) (hsz : 0 < sz) (k : Nat) (hk : k < xs.length) :
    ∃ b o, a? = some ⟨b, o, none⟩ ∧ ∀ j, j < sz → w.cell? ⟨b, o + k * sz + j, none⟩ = some ((enc xs[k]).getD j undef) := by
  obtain ⟨_, _, e, _, _, _, h4⟩ := h
  cases e
  obtain ⟨a0, rfl, hc0⟩ := h4 0 (by omega)
  obtain ⟨a, ha, hc⟩ := h4 k hk
  cases ha
  have h0 : a0.spot = none := spot_none (by simpa [Addr.add_zero'] using hc0 0 hsz)
  obtain ⟨b, o, s⟩ := a0
  cases h0
  exact ⟨b, o, rfl, fun j hj => by rw [← hc j hj, Addr.add_lit, Nat.add_assoc]⟩
theorem Sl.at1 {α : Type} {w : World} {enc : α → List Value} {a? : Option Addr} {n cap : Nat} {xs : List α} (h : Sl w 1 enc (.slice a? n cap) xs) (k : Nat) (hk : k < xs.length) :
    ∃ b o, a? = some ⟨b, o, none⟩ ∧ w.cell? ⟨b, o + k, none⟩ = some ((enc xs[k]).getD 0 undef) := by
  obtain ⟨b, o, e, hc⟩ := h.at (by omega) k hk
  exact ⟨b, o, e, by simpa using hc 0 (by omega)⟩
theorem Sl.len {α : Type} {w : World} {sz : Nat} {enc : α → List Value} {v : Value} {xs : List α} (h : Sl w sz enc v xs) : ∃ a? cap, v = .slice a? xs.length cap ∧ xs.length ≤ cap ∧ cap ≤ maxLen ∧ xs.length ≤ 140737488351232 := by
  obtain ⟨a?, cap, e, h1, h2, h3, _⟩ := h; exact ⟨a?, cap, e, h1, h2, h3⟩

theorem Sl.nil {α : Type} (w : World) (sz : Nat) (enc : α → List Value) : Sl w sz enc (.slice none 0 0) [] :=
  ⟨none, 0, rfl, Nat.le_refl _, by simp [maxLen], by simp, fun i hi => absurd hi (Nat.not_lt_zero _)⟩

/-- What follows in memory when only the class 'Ext w0' is known of the world. -/
theorem ext_cells {w0 : World} {p : Addr} {v : Value} (h : w0.cell? p = some v) : ∀ w, Ext w0 w → w.cell? p = some v := fun _ k => k.cell h

/-! ### Rows that the call owns, typed -/

def OwnR {α : Type} (w : World) (B : Nat) (e : TypeId) (sz : Nat) (enc : α → List Value) (v : Value) (xs : List α) : Prop :=
  w.ownsRow B e sz v xs.length (xs.flatMap enc)

structure ET (P : Program) (t e : TypeId) (sz bytes : Nat) : Prop where
  ht : P.underlying t = some (.slice e)
  hi : ∃ i z, P.info? e = some i ∧ i.zero = some z ∧ i.size = sz ∧ i.bytes = bytes ∧ z.cells.size = sz
  hs : 0 < sz
  hb : 0 < bytes

theorem ET.mk' {P : Program} {t e : TypeId} {sz bytes : Nat} {z : Value} (ht : P.underlying t = some (.slice e)) (h : (P.info? e).map (fun i => (i.zero, i.size, i.bytes)) = some (some z, sz, bytes))
    (hz : z.cells.size = sz) (hs : 0 < sz) (hb : 0 < bytes) : ET P t e sz bytes := by
  obtain ⟨i0, hi, hz0, hz1, hz2⟩ := info_parts h
  exact ⟨ht, ⟨i0, z, hi, hz0, hz1, hz2, hz⟩, hs, hb⟩

section own
variable {α : Type} {B : Nat} {e : TypeId} {sz : Nat} {enc : α → List Value} {v : Value} {xs : List α} {w : World}

theorem OwnR.nil : OwnR w B e sz enc (.slice none 0 0) ([] : List α) := World.ownsRow_nil w B e sz
theorem OwnR.alloc (h : OwnR w B e sz enc v xs) (o : Obj) : OwnR (w.alloc o) B e sz enc v xs := World.ownsRow.alloc h o
theorem OwnR.drew (h : OwnR w B e sz enc v xs) : OwnR w.drew B e sz enc v xs := h
theorem OwnR.ext {w' : World} (h : OwnR w B e sz enc v xs) (k : Ext w w') : OwnR w' B e sz enc v xs :=
  World.ownsRow.kept (row := none) h ⟨k.os, k.tape, k.output, k.size, fun b hb _ => k.block b hb⟩ (by cases v.ownBlock <;> simp)
theorem OwnR.mono {B' : Nat} (h : OwnR w B e sz enc v xs) (hB : B' ≤ B) : OwnR w B' e sz enc v xs := by
  obtain ⟨h1, h2⟩ := h
  exact ⟨h1, h2.imp id fun ⟨g, cap, cur, a, b, c⟩ => ⟨g, cap, cur, a, Nat.le_trans hB b, c⟩⟩
/-- What lies from block B on is kept where below B' nothing turns, and the row lies below B'. -/
theorem OwnR.below {B' : Nat} {w' : World} (h : OwnR w B e sz enc v xs) (k : Below B' w w') (hv : ∀ a n c, v = .slice (some a) n c → a.block < B') : OwnR w' B e sz enc v xs := by
  obtain ⟨h1, h2⟩ := h
  refine ⟨h1, h2.imp id fun ⟨g, cap, cur, a, b, c, d⟩ => ⟨g, cap, cur, a, b, ?_, d⟩⟩
  rw [k.block g (hv _ _ _ a)]; exact c

theorem flatMap_get (hl : ∀ x ∈ xs, (enc x).length = sz) (i j : Nat) (hi : i < xs.length) (hj : j < sz) : (xs.flatMap enc)[i * sz + j]? = some ((enc xs[i]).getD j undef) := by
  induction xs generalizing i with
  | nil => simp at hi
  | cons x xs ih =>
    have h0 := hl x (by simp)
    rw [List.flatMap_cons]
    cases i with
    | zero =>
      rw [List.getElem?_append_left (by omega)]
      simp [List.getD, List.getElem?_eq_getElem (show j < (enc x).length by omega)]
    | succ i =>
      rw [List.getElem?_append_right (by rw [h0, Nat.succ_mul]; omega), h0, show (i + 1) * sz + j - sz = i * sz + j by rw [Nat.succ_mul]; omega]
      exact ih (fun y hy => hl y (by simp [hy])) i (by simpa using hi)

theorem OwnR.sl (h : OwnR w B e sz enc v xs) (hl : ∀ x ∈ xs, (enc x).length = sz) (hb : xs.length ≤ 140737488351232) : Sl w sz enc v xs := by
  have hc := fun g hg => World.ownsRow.cells h (g := g) hg
  obtain ⟨h1, ⟨rfl, h0⟩ | ⟨g, cap, cur, rfl, hB, hg, hn, hm, hsz, ht⟩⟩ := h
  · exact ⟨none, 0, by rw [h0], by omega, by simp [maxLen], hb, fun i hi => by omega⟩
  · refine ⟨_, cap, rfl, hn, hm, hb, fun i hi => ⟨_, rfl, fun j hj => ?_⟩⟩
    exact hc g rfl _ _ (flatMap_get hl i j hi hj)

theorem OwnR.lt (h : OwnR w B e sz enc v xs) {a : Addr} {n c : Nat} (hv : v = .slice (some a) n c) : B ≤ a.block ∧ a.block < w.heap.size :=
  World.ownsRow.lt h a.block (by rw [hv]; rfl)
theorem OwnR.len (h : OwnR w B e sz enc v xs) : ∃ a? c, v = .slice a? xs.length c := by
  obtain ⟨_, ⟨rfl, h0⟩ | ⟨g, cap, cur, rfl, _⟩⟩ := h
  · exact ⟨none, 0, by rw [h0]⟩
  · exact ⟨_, _, rfl⟩

theorem alloc_cells (w : World) (cs : Array Value) (e : TypeId) (j : Nat) (u : Value) (h : cs.toList[j]? = some u) : (w.alloc (.cells cs e)).cell? ((⟨w.heap.size, 0, none⟩ : Addr).add j) = some u := by
  have h' : cs[j]? = some u := by simpa using h
  have hh : (w.alloc (.cells cs e)).heap[w.heap.size]? = some (.cells cs e) := by
    show (w.heap.push _)[w.heap.size]? = _
    simp
  have hb : ((⟨w.heap.size, 0, none⟩ : Addr).add j) = ⟨w.heap.size, j, none⟩ := by unfold Addr.add; split <;> simp_all
  rw [hb]
  unfold World.cell?
  rw [hh]
  exact h'

theorem alloc_cell (w : World) (cs : Array Value) (e : TypeId) (j : Nat) (u : Value) (h : cs.toList[j]? = some u) : (w.alloc (.cells cs e)).cell? ⟨w.heap.size, j, none⟩ = some u := by
  have := alloc_cells w cs e j u h
  have hb : ((⟨w.heap.size, 0, none⟩ : Addr).add j) = ⟨w.heap.size, j, none⟩ := by unfold Addr.add; split <;> simp_all
  rwa [hb] at this

/-- The result of an append lies where the old row lay, or in a new block. -/
theorem append_place {P : Program} (w : World) (base : Nat) (t ty e : TypeId) (i : TypeInfo) (z : Value) (size bytes : Nat) (ht : P.underlying t = some (.slice e)) (hi : P.info? e = some i) (hz : i.zero = some z)
    (hsize : i.size = size) (hby : i.bytes = bytes) (hzs : z.cells.size = size) (hsz : 0 < size)
    (v : Value) (n : Nat) (xs : List Value) (hown : w.ownsRow base e size v n xs)
    (a : Addr) (m c : Nat) (news : List Value) (hl : news.length = m * size) (hnews : ∀ j u, news[j]? = some u → w.cell? (a.add j) = some u) (h1 : ∀ u ∈ news, u.oneCell' = true)
    (h63 : n + m ≤ maxLen) (hbytes : (n + m) * bytes ≤ 140737488355328) (v' : Value) (w' : World) (hrun : (Builtin.append_ #[t, t] ty #[v, .slice (some a) m c]).run P w = .ok v' w') :
    v'.ownBlock = v.ownBlock ∨ ∃ b, v'.ownBlock = some b ∧ w.heap.size ≤ b := by
  subst hsize
  subst hby
  have hsmall : n + m ≤ 9223372036854775807 := by simp only [maxLen] at h63; omega
  have hown' := hown
  rcases hown.2 with ⟨rfl, rfl⟩ | ⟨g, cap, cur, rfl, hbg, hg, hnc, hcm, hcs, htake⟩
  · by_cases hm : m = 0
    · subst hm
      have hn : news = [] := List.eq_nil_of_length_eq_zero (by simpa using hl)
      subst hn
      have hr : (Builtin.append_ #[t, t] ty #[.slice none 0 0, .slice (some a) 0 c]).run P w = .ok (.slice none 0 0) w := by
        simp [Builtin.append_, run_underlying ht, sizeOf, typeInfo, hi, Builtin.lenOf, Builtin.firstCells, loadCells, loadCellsFrom]
      rw [hr] at hrun; cases hrun; exact .inl rfl
    · have hr := run_append_nil (P := P) w t ty e i z ht hi hz a m c news hl hnews (by omega) (by omega) (by have hb := hbytes; simp only [Nat.zero_add] at hb; omega)
      rw [hr] at hrun; cases hrun; exact .inr ⟨_, rfl, Nat.le_refl _⟩
  · by_cases hroom : n + m ≤ cap
    · have hfit : n * i.size + news.length ≤ cur.size := by rw [hl, hcs, ← Nat.add_mul]; exact Nat.mul_le_mul_right _ hroom
      have hr := run_append_room (P := P) w t ty e i ht hi g n cap cur hg a m c news hl hnews h1 hroom hfit
      rw [hr] at hrun; cases hrun; exact .inl rfl
    · have holds : ∀ j u, xs[j]? = some u → w.cell? ((⟨g, 0, none⟩ : Addr).add j) = some u := hown.cells (g := g) rfl
      have hr := run_append_grow (P := P) w t ty e i z ht hi hz ⟨g, 0, none⟩ n cap xs hown.1 holds a m c news hl hnews (by omega) (by omega) (growslice_fits (by omega) hbytes)
      rw [hr] at hrun; cases hrun; exact .inr ⟨_, rfl, Nat.le_refl _⟩

/-- What an append to an own row does to the world: block b stays, if it is not the row's; the result lies in the same block or in a new one. -/
structure Appd (w w' : World) (v v' : Value) : Prop where
  kept : ∀ b, b < w.heap.size → some b ≠ v.ownBlock → w'.heap[b]? = w.heap[b]?
  place : v'.ownBlock = v.ownBlock ∨ ∃ b, v'.ownBlock = some b ∧ w.heap.size ≤ b
  size : w.heap.size ≤ w'.heap.size
  os : w'.os = w.os
  tape : w'.tape = w.tape
  output : w'.output = w.output

theorem Appd.sl {α : Type} {w w' : World} {v v' u : Value} (h : Appd w w' v v') {sz : Nat} {enc : α → List Value} {xs : List α} (s : Sl w sz enc u xs) (hne : ∀ a n c, u = .slice (some a) n c → v.ownBlock ≠ some a.block) : Sl w' sz enc u xs := by
  obtain ⟨a?, cap, rfl, h1, h2, h3, h4⟩ := s
  refine ⟨a?, cap, rfl, h1, h2, h3, fun i hi => ?_⟩
  obtain ⟨a, rfl, hc⟩ := h4 i hi
  refine ⟨a, rfl, fun j hj => ?_⟩
  have hc' := hc j hj
  have hb : (a.add (i * sz + j)).block = a.block := by unfold Addr.add; split <;> rfl
  refine (World.cell?_of_block (w := w) (h.kept _ (lt_of_cell hc') ?_)).trans hc'
  rw [hb]; exact fun e => hne a _ _ rfl e.symm

/-- The result's block is no block of what lay apart from the old row. -/
theorem Appd.apart {w w' : World} {v v' : Value} (h : Appd w w' v v') {b : Nat} (hb : b < w.heap.size) (hne : v.ownBlock ≠ some b) : v'.ownBlock ≠ some b := by
  rcases h.place with e | ⟨c, e, hc⟩
  · rw [e]; exact hne
  · rw [e]; intro e'; cases e'; omega

theorem Appd.cell {w w' : World} {v v' : Value} (h : Appd w w' v v') {p : Addr} {x : Value} (hne : v.ownBlock ≠ some p.block) (hc : w.cell? p = some x) : w'.cell? p = some x :=
  (World.cell?_of_block (w := w) (h.kept _ (lt_of_cell hc) (fun e => hne e.symm))).trans hc
theorem OwnR.fresh (h : OwnR w B e sz enc v xs) {b : Nat} (hb : w.heap.size ≤ b) : v.ownBlock ≠ some b := fun e => by
  have := (World.ownsRow.lt h b e).2; omega

theorem add_block (a : Addr) (n : Nat) : (a.add n).block = a.block := by unfold Addr.add; split <;> rfl

/-- A slice that reads as xs and shares no block with the own row v. -/
def SlA {α : Type} (w : World) (v : Value) (sz : Nat) (enc : α → List Value) (u : Value) (xs : List α) : Prop :=
  Sl w sz enc u xs ∧ (xs ≠ [] → ∀ a n c, u = .slice (some a) n c → v.ownBlock ≠ some a.block)

theorem SlA.appd {α : Type} {w w' : World} {v v' u : Value} {sz : Nat} {enc : α → List Value} {xs : List α} (s : SlA w v sz enc u xs) (h : Appd w w' v v') (hsz : 0 < sz) : SlA w' v' sz enc u xs := by
  obtain ⟨s, hne⟩ := s
  by_cases hx : xs = []
  · subst hx
    obtain ⟨a?, cap, rfl, h1, h2, h3, _⟩ := s
    exact ⟨⟨a?, cap, rfl, h1, h2, h3, fun i hi => absurd hi (Nat.not_lt_zero _)⟩, fun h => absurd rfl h⟩
  · refine ⟨h.sl s (hne hx), fun _ a n c e => ?_⟩
    have hn := hne hx a n c e
    obtain ⟨a?, cap, rfl, h1, h2, h3, h4⟩ := s
    have hpos : 0 < xs.length := by cases xs with | nil => exact absurd rfl hx | cons _ _ => simp
    obtain ⟨a', rfl, hc⟩ := h4 0 hpos
    cases e
    have hc' := lt_of_cell (hc 0 hsz)
    have hb : (a.add (0 * sz + 0)).block = a.block := by unfold Addr.add; split <;> rfl
    rw [hb] at hc'
    rcases h.place with e | ⟨b, e, hb'⟩
    · rw [e]; exact hn
    · rw [e]; intro e'; cases e'; omega

theorem SlA.ext {α : Type} {w w' : World} {v u : Value} {sz : Nat} {enc : α → List Value} {xs : List α} (s : SlA w v sz enc u xs) (h : Ext w w') : SlA w' v sz enc u xs := ⟨s.1.ext h, s.2⟩

/-- append of one new row: the row's cells are those of ys. -/
theorem wpList_own_app {P : Program} {t : TypeId} {bytes : Nat} (E : ET P t e sz bytes) {ops : Array Oper} {rest : List Oper} {o : Oper} {a : Act} {Q : Exit → Act → World → Prop} (hgd : o.guard = none) (s x : Operand)
    (ho : o.op = .call { callee := .builtin .append, args := #[s, x], argTypes := #[t, t] })
    (hown : OwnR w B e sz enc v xs) (hs : a.eval s = v) (ys : List α) (ad : Addr) (c : Nat) (hx : a.eval x = .slice (some ad) ys.length c) (hl : ∀ y ∈ ys, (enc y).length = sz)
    (hnews : ∀ j u, (ys.flatMap enc)[j]? = some u → w.cell? (ad.add j) = some u) (h1 : ∀ y ∈ ys, ∀ u ∈ enc y, u.oneCell' = true)
    (hbytes : (xs.length + ys.length) * bytes ≤ 140737488355328) (hbase : B ≤ w.heap.size)
    (h : ∀ v' w', OwnR w' B e sz enc v' (xs ++ ys) → Below B w w' → Appd w w' v v' → (v' = .slice none 0 0 ↔ v = .slice none 0 0 ∧ ys.length = 0) → wpList P ops Q rest (a.put o.dst v') w') : wpList P ops Q (o :: rest) a w := by
  obtain ⟨ht, ⟨i, z, hi, hz, hsz, hby, hzs⟩, hs0, hb0⟩ := E
  have hlen : (ys.flatMap enc).length = ys.length * sz := by
    clear hnews hbytes h hx h1
    induction ys with
    | nil => simp
    | cons y ys ih => rw [List.flatMap_cons, List.length_append, hl y (by simp), ih (fun z hz => hl z (by simp [hz])), List.length_cons, Nat.succ_mul]; omega
  have hn : xs.length + ys.length ≤ (xs.length + ys.length) * bytes := Nat.le_mul_of_pos_right _ hb0
  have h63 : xs.length + ys.length ≤ maxLen := by simp only [maxLen]; omega
  have h1' : ∀ u ∈ ys.flatMap enc, u.oneCell' = true := fun u hu => by obtain ⟨y, hy, hu⟩ := List.mem_flatMap.1 hu; exact h1 y hy u hu
  obtain ⟨v', w', hr, h2, h3, h4⟩ := run_append_own (P := P) w B t o.type e i z sz bytes ht hi hz hsz hby hzs hs0 v xs.length _ hown ad ys.length c _ hlen hnews h1' h63 hbytes hbase
  have hp := append_place w B t o.type e i z sz bytes ht hi hz hsz hby hzs hs0 v xs.length _ hown ad ys.length c _ hlen hnews h1' h63 hbytes v' w' hr
  refine wpList_plain hgd fun K hK => ?_
  unfold Oper.wp execOp
  simp only [ho, resolve, invoke, builtin, Sem.run_bind, Sem.run_pure, Result.andThen_ok, List.map_toArray, List.map_cons, List.map_nil, hs, hx, hr]
  refine hK _ _ (h v' w' ?_ ?_ ⟨fun b hb hne => h3.block b hb hne, hp, h3.size, h3.os, h3.tape, h3.output⟩ h4)
  · unfold OwnR; rw [List.length_append, List.flatMap_append]; exact h2
  · exact (Below.refl B w).grown h3 hbase fun k hk => (World.ownsRow.lt hown k hk).1

/-- append of one element that lies in a row just made. -/
theorem wpList_own1 {P : Program} {t : TypeId} {bytes : Nat} (E : ET P t e sz bytes) {ops : Array Oper} {rest : List Oper} {o : Oper} {a : Act} {Q : Exit → Act → World → Prop} {cs : Array Value} (hgd : o.guard = none) (s x : Operand)
    (ho : o.op = .call { callee := .builtin .append, args := #[s, x], argTypes := #[t, t] })
    (hown : OwnR w B e sz enc v xs) (hs : a.eval s = v) (y : α) {bb : Nat} (hx : a.eval x = .slice (some ⟨bb, 0, none⟩) 1 1) (hcs : cs.toList = enc y) (hl : (enc y).length = sz)
    (h1 : ∀ u ∈ enc y, u.oneCell' = true)
    (hbytes : (xs.length + 1) * bytes ≤ 140737488355328) (hbase : B ≤ w.heap.size)
    (h : ∀ v' w', OwnR w' B e sz enc v' (xs ++ [y]) → Below B w w' → Appd w w' v v' → (∃ g c, v' = .slice (some ⟨g, 0, none⟩) (xs.length + 1) c) → wpList P ops Q rest (a.put o.dst v') w') (hbb : bb = w.heap.size := by simp) : wpList P ops Q (o :: rest) a (w.alloc (.cells cs e)) := by
  subst hbb
  refine wpList_own_app E hgd s x ho (hown.alloc _) hs [y] _ 1 hx (by simpa using hl) (fun j u hu => alloc_cells w cs e j u (by rw [hcs]; simpa using hu)) (by simpa using h1) hbytes (by simp; omega) fun v' w' h2 h3 h4 h5 => ?_
  refine h v' w' h2 (((Below.refl B w).alloc hbase _).trans h3) ⟨fun b hb hne => ?_, h4.place.imp id fun ⟨b, e1, e2⟩ => ⟨b, e1, by simp at e2; omega⟩, by have := h4.size; simp at this; omega, h4.os, h4.tape, h4.output⟩ ?_
  · rw [h4.kept b (by simp; omega) hne]; exact Below.heap_alloc _ _ _ hb
  · obtain ⟨_, ⟨h6, _⟩ | ⟨g, cap, cur, h6, _⟩⟩ := h2
    · have := h5.1 h6; simp at this
    · exact ⟨g, cap, by rw [h6]; simp⟩
theorem OwnR.shape (h : OwnR w B e sz enc v xs) : ∃ a? n c, v = .slice a? n c := by
  obtain ⟨a, c, e⟩ := h.len; exact ⟨a, _, c, e⟩

end own

end Go.Sx
