/-
  A row that the call makes by 'make' and fills: its block is known whole.
-/
import Derived.Test.YtajicmghnllnmaaKb
import Derived.OwnWalk
set_option linter.unusedVariables false
namespace Go.Sx
open Go.RowKit

/-- Block g is, whole, the row of xs. -/
def Bk {α : Type} (w : World) (g : Nat) (e : TypeId) (enc : α → List Value) (xs : List α) : Prop := ∃ cs : Array Value, w.heap[g]? = some (.cells cs e (0, 0)) ∧ cs.toList = xs.flatMap enc

section
variable {α : Type} {w w' : World} {g : Nat} {e : TypeId} {sz : Nat} {enc : α → List Value} {xs : List α}

theorem Bk.lt (h : Bk w g e enc xs) : g < w.heap.size := by obtain ⟨cs, h, _⟩ := h; exact (Array.getElem?_eq_some_iff.1 h).1
theorem Bk.ext (h : Bk w g e enc xs) (x : Ext w w') : Bk w' g e enc xs := by
  obtain ⟨cs, h1, h2⟩ := h
  exact ⟨cs, by rw [x.block g (Array.getElem?_eq_some_iff.1 h1).1]; exact h1, h2⟩
theorem Bk.alloc (h : Bk w g e enc xs) (o : Obj) : Bk (w.alloc o) g e enc xs := h.ext (Ext.alloc' w o)
theorem Bk.ne (h : Bk w g e enc xs) (p : Addr) (v : Value) (hp : g ≠ p.block) : Bk (w.setCell p v) g e enc xs := by
  obtain ⟨cs, h1, h2⟩ := h
  exact ⟨cs, (Below.heap_setCell w p v g hp).trans h1, h2⟩
theorem Bk.mk (w : World) (e : TypeId) (cs : Array Value) (h : cs.toList = xs.flatMap enc) : Bk (w.alloc (.cells cs e)) w.heap.size e enc xs :=
  ⟨cs, by show (w.heap.push _)[w.heap.size]? = _; simp, h⟩

theorem flatMap_len' (hl : ∀ x ∈ xs, (enc x).length = sz) : (xs.flatMap enc).length = xs.length * sz := by
  induction xs with
  | nil => simp
  | cons y ys ih => rw [List.flatMap_cons, List.length_append, hl y (by simp), ih (fun z hz => hl z (by simp [hz])), List.length_cons, Nat.succ_mul]; omega

theorem Bk.cell (h : Bk w g e enc xs) (hl : ∀ x ∈ xs, (enc x).length = sz) (k j : Nat) (hk : k < xs.length) (hj : j < sz) : w.cell? ⟨g, k * sz + j, none⟩ = some ((enc xs[k]).getD j undef) := by
  obtain ⟨cs, h1, h2⟩ := h
  unfold World.cell?
  simp only [h1]
  have := flatMap_get hl k j hk hj
  rw [← h2] at this
  simpa using this
theorem Bk.ex (h : Bk w g e enc xs) (hl : ∀ x ∈ xs, (enc x).length = sz) (k j : Nat) (hk : k < xs.length) (hj : j < sz) : ∃ y, w.cell? ⟨g, k * sz + j, none⟩ = some y := ⟨_, h.cell hl k j hk hj⟩
theorem Bk.ex0 (h : Bk w g e enc xs) (hl : ∀ x ∈ xs, (enc x).length = sz) (k : Nat) (hk : k < xs.length) (hj : 0 < sz) : ∃ y, w.cell? ⟨g, k * sz, none⟩ = some y := h.ex hl k 0 hk hj
theorem Bk.free (h : Bk w g e enc xs) (j : Nat) : w.frozen? ⟨g, j, none⟩ = false := by
  obtain ⟨cs, h1, _⟩ := h
  unfold World.frozen?
  simp [h1]
theorem Bk.sl (h : Bk w g e enc xs) (hl : ∀ x ∈ xs, (enc x).length = sz) {n : Nat} (hn : n = xs.length) (hb : xs.length ≤ 140737488351232) : Sl w sz enc (.slice (some ⟨g, 0, none⟩) n n) xs := by
  subst hn
  refine ⟨_, _, rfl, Nat.le_refl _, by simp [maxLen]; omega, hb, fun i hi => ⟨_, rfl, fun j hj => ?_⟩⟩
  have hb : ((⟨g, 0, none⟩ : Addr).add (i * sz + j)) = ⟨g, i * sz + j, none⟩ := by unfold Addr.add; split <;> simp_all
  rw [hb]
  exact h.cell hl i j hi hj

theorem heap_setCells (w : World) (g : Nat) (t : TypeId) : ∀ (vs : List Value) (o : Nat) (w : World) (cs : Array Value), w.heap[g]? = some (.cells cs t (0, 0)) →
    ∃ cs' : Array Value, (w.setCells g o vs).heap[g]? = some (.cells cs' t (0, 0)) ∧ cs'.size = cs.size ∧ ∀ j, cs'[j]? = if o ≤ j ∧ j < o + vs.length ∧ j < cs.size then vs[j - o]? else cs[j]?
  | [], o, w, cs, h => ⟨cs, h, rfl, fun j => by rw [if_neg (by simp; omega)]⟩
  | v :: vs, o, w, cs, h => by
    have h1 := heap_setCell_same w g o cs t v h
    obtain ⟨cs', h2, h3, h4⟩ := heap_setCells w g t vs (o + 1) (w.setCell ⟨g, o, none⟩ v) _ h1
    refine ⟨cs', h2, by rw [h3]; simp, fun j => ?_⟩
    rw [h4 j]
    simp only [Array.size_setIfInBounds, List.length_cons]
    by_cases hj : j = o
    · subst hj
      rw [if_neg (by omega)]
      by_cases hs : j < cs.size
      · rw [if_pos (by omega)]; simp [hs]
      · rw [if_neg (by omega)]
        simp [hs]
    · by_cases hr : o + 1 ≤ j ∧ j < o + 1 + vs.length ∧ j < cs.size
      · rw [if_pos hr, if_pos (by omega)]
        rw [show j - o = (j - (o + 1)) + 1 by omega, List.getElem?_cons_succ]
      · rw [if_neg hr, if_neg (by omega)]
        rw [Array.getElem?_setIfInBounds_ne (by omega)]

/-- One element written, all its cells. -/
theorem Bk.put (h : Bk w g e enc xs) (hl : ∀ x ∈ xs, (enc x).length = sz) (y : α) (hy : (enc y).length = sz) (k : Nat) (hk : k < xs.length) : Bk (w.setCells g (k * sz) (enc y)) g e enc (xs.set k y) := by
  obtain ⟨cs, h1, h2⟩ := h
  obtain ⟨cs', h3, h4, h5⟩ := heap_setCells w g e (enc y) (k * sz) w cs h1
  refine ⟨cs', h3, ?_⟩
  have hlen : cs.size = xs.length * sz := by rw [← Array.length_toList, h2, flatMap_len' hl]
  have hl' : ∀ x ∈ xs.set k y, (enc x).length = sz := fun x hx => by
    rcases List.mem_or_eq_of_mem_set hx with h | h
    · exact hl x h
    · rw [h]; exact hy
  have hkk : k * sz + sz ≤ xs.length * sz := by
    have := Nat.mul_le_mul_right sz (show k + 1 ≤ xs.length from hk)
    rw [Nat.succ_mul] at this; exact this
  apply List.ext_getElem?
  intro j
  rw [Array.getElem?_toList, h5 j, hy]
  by_cases hj : j < xs.length * sz
  · have hsz : 0 < sz := by rcases Nat.eq_zero_or_pos sz with h | h; (rw [h] at hj; omega); exact h
    have e1 : j = j / sz * sz + j % sz := by rw [Nat.mul_comm]; exact (Nat.div_add_mod j sz).symm
    have e2 : j / sz < xs.length := by rw [Nat.div_lt_iff_lt_mul hsz]; exact hj
    have e3 : j % sz < sz := Nat.mod_lt _ hsz
    have g1 := flatMap_get hl' (j / sz) (j % sz) (by simpa using e2) e3
    rw [← e1] at g1
    rw [g1]
    by_cases hc : j / sz = k
    · have hb1 : k * sz ≤ j := by rw [← hc]; omega
      have hb2 : j < k * sz + sz := by rw [← hc]; omega
      rw [if_pos ⟨hb1, hb2, by omega⟩]
      have hm : j - k * sz = j % sz := by rw [← hc]; omega
      simp only [List.getElem_set, hc, if_true]
      rw [hm, List.getElem?_eq_getElem (by omega)]
      simp [List.getD, List.getElem?_eq_getElem (show j % sz < (enc y).length by omega)]
    · have hn : ¬ (k * sz ≤ j ∧ j < k * sz + sz ∧ j < cs.size) := fun ⟨p, q, _⟩ => hc (by
        apply Nat.le_antisymm
        · exact Nat.le_of_lt_succ ((Nat.div_lt_iff_lt_mul hsz).2 (by rw [Nat.succ_mul]; exact q))
        · exact (Nat.le_div_iff_mul_le hsz).2 p)
      rw [if_neg hn]
      have g2 := flatMap_get hl (j / sz) (j % sz) e2 e3
      rw [← e1, ← h2, Array.getElem?_toList] at g2
      rw [g2, List.getElem_set_ne (by omega)]
  · rw [if_neg (by omega), Array.getElem?_eq_none (by omega), List.getElem?_eq_none (by rw [flatMap_len' hl']; simpa using hj)]

theorem setCells_ext {a : World} (h : Ext a w) {g : Nat} (hg : a.heap.size ≤ g) (vs : List Value) : ∀ (o : Nat), Ext a (w.setCells g o vs) := by
  induction vs generalizing w with
  | nil => intro o; exact h
  | cons v vs ih => intro o; exact ih (h.setCell hg v) (o + 1)

theorem made_list {z : Value} {x0 : α} (hz : z.cells.toList = enc x0) (hs : (enc x0).length = sz) (n : Nat) : (madeCells z.cells (n * sz)).toList = (List.replicate n x0).flatMap enc := by
  have hl : ∀ x ∈ List.replicate n x0, (enc x).length = sz := fun x hx => by rw [List.eq_of_mem_replicate hx]; exact hs
  apply List.ext_getElem?
  intro j
  by_cases hj : j < n * sz
  · have hsz : 0 < sz := by rcases Nat.eq_zero_or_pos sz with h | h; (rw [h] at hj; omega); exact h
    have e1 : j = j / sz * sz + j % sz := by rw [Nat.mul_comm]; exact (Nat.div_add_mod j sz).symm
    have e2 : j / sz < n := by rw [Nat.div_lt_iff_lt_mul hsz]; exact hj
    have e3 : j % sz < sz := Nat.mod_lt _ hsz
    have g1 := flatMap_get hl (j / sz) (j % sz) (by simpa using e2) e3
    rw [← e1] at g1
    rw [g1]
    have hzs : z.cells.size = sz := by rw [← Array.length_toList, hz, hs]
    simp only [madeCells, Array.toList_map, Array.toList_range, List.getElem?_map, List.getElem?_range hj, Option.map_some, List.getElem_replicate, Option.some.injEq]
    rw [← hz, hzs]
    rw [getElem!_pos z.cells (j % sz) (by omega)]
    simp [List.getD, show j % sz < z.cells.size by omega]
  · rw [List.getElem?_eq_none (by simp [madeCells]; omega), List.getElem?_eq_none (by rw [flatMap_len' hl]; simpa using hj)]
end

/-- A slice of a slice. -/
theorem Sl.mid {α : Type} {w : World} {sz : Nat} {enc : α → List Value} {b o n cap : Nat} {xs : List α} (S : Sl w sz enc (.slice (some ⟨b, o, none⟩) n cap) xs) (k m c : Nat) (hm : m ≤ xs.length) (hk : k ≤ m) (hc : m - k ≤ c) (hc2 : c ≤ maxLen) :
    Sl w sz enc (.slice (some ⟨b, o + k * sz, none⟩) (m - k) c) ((xs.take m).drop k) := by
  obtain ⟨a, c', e, h1, h2, h3, h4⟩ := S
  injection e with e1 e2 e3
  subst e2
  have hl : ((xs.take m).drop k).length = m - k := by simp; omega
  refine ⟨_, c, by rw [hl], by omega, hc2, by omega, fun i hi => ⟨_, rfl, fun j hj => ?_⟩⟩
  obtain ⟨a', ha, hcc⟩ := h4 (k + i) (by omega)
  cases e1.trans ha
  have := hcc j hj
  rw [Addr.add_lit] at this ⊢
  rw [show o + k * sz + (i * sz + j) = o + ((k + i) * sz + j) by rw [Nat.add_mul]; omega, this]
  simp

theorem Sl.first {α : Type} {w : World} {sz : Nat} {enc : α → List Value} {b o n cap : Nat} {xs : List α} (S : Sl w sz enc (.slice (some ⟨b, o, none⟩) n cap) xs) (m : Nat) (hm : m ≤ xs.length) :
    Sl w sz enc (.slice (some ⟨b, o, none⟩) m cap) (xs.take m) := by
  obtain ⟨_, _, e, h1, h2, h3⟩ := S.len
  injection e with e1 e2 e3
  subst e3
  simpa using Sl.mid S 0 m cap hm (Nat.zero_le _) (by omega) h2
theorem Sl.tail {α : Type} {w : World} {sz : Nat} {enc : α → List Value} {b o n cap : Nat} {xs : List α} (S : Sl w sz enc (.slice (some ⟨b, o, none⟩) n cap) xs) (k : Nat) (hk : k ≤ xs.length) :
    Sl w sz enc (.slice (some ⟨b, o + k * sz, none⟩) (n - k) (cap - k)) (xs.drop k) := by
  obtain ⟨_, _, e, h1, h2, h3⟩ := S.len
  injection e with e1 e2 e3
  subst e2 e3
  simpa using S.mid k xs.length (cap - k) (Nat.le_refl _) hk (by omega) (by omega)

/-- A row just laid. -/
theorem OwnR.lit {α : Type} (w : World) {B : Nat} {e : TypeId} {sz : Nat} {enc : α → List Value} (cs : Array Value) (xs : List α) (n : Nat) (hn : xs.length = n) (hB : B ≤ w.heap.size) (hcs : cs.toList = xs.flatMap enc) (hsz : cs.size = n * sz) (hm : n ≤ maxLen) :
    OwnR (w.alloc (.cells cs e)) B e sz enc (.slice (some ⟨w.heap.size, 0, none⟩) n n) xs := by
  subst hn
  have := World.ownsRow_lit (base := B) (e := e) (size := sz) w cs xs.length hB hm hsz
  unfold OwnR
  rw [← hcs]; exact this

/-- The cells of a block that is known whole. -/
theorem row_news {w : World} {g : Nat} {cs : Array Value} {t : TypeId} {fr : Nat × Nat} (h : w.heap[g]? = some (.cells cs t fr)) (j : Nat) (u : Value) (hu : cs.toList[j]? = some u) : w.cell? ((⟨g, 0, none⟩ : Addr).add j) = some u := by
  have hb : ((⟨g, 0, none⟩ : Addr).add j) = ⟨g, j, none⟩ := by unfold Addr.add; split <;> simp_all
  rw [hb]
  exact row_at h j u hu
theorem stable_true : Stable Ext (fun _ => True) := fun _ _ _ _ => trivial

/-- make([]T, n). -/
theorem wpList_mk {α : Type} {P : Program} {w : World} {ops : Array Oper} {rest : List Oper} {o : Oper} {a : Act} {Q : Exit → Act → World → Prop} {t e : TypeId} {sz bytes : Nat} {enc : α → List Value} {z : Value} (x0 : α)
    (ht : P.underlying t = some (.slice e)) (hi : (P.info? e).map (fun i => (i.zero, i.size, i.bytes)) = some (some z, sz, bytes)) (hz : z.cells.toList = enc x0) (hs : (enc x0).length = sz)
    (hg : o.guard = none) (l c : Operand) (hop : o.op = Op.makeSlice t l c) (n : Nat) (hl : a.eval l = .int .i64 (n : Int)) (hc : a.eval c = .int .i64 (n : Int)) (hb : n * bytes ≤ 281474976710656) (hn : n ≤ 140737488351232)
    (hK : ∀ cs, Bk (w.alloc (.cells cs e)) w.heap.size e enc (List.replicate n x0) → wpList P ops Q rest (a.put o.dst (.slice (some ⟨w.heap.size, 0, none⟩) n n)) (w.alloc (.cells cs e))) :
    wpList P ops Q (o :: rest) a w := by
  refine wpList_plain hg fun K hK' => ?_
  obtain ⟨i0, h2, h3, h4, h5⟩ := info_parts hi
  have hbb : (i0.bytes : Int) * (n : Int) ≤ 281474976710656 := by
    rw [h5, Int.mul_comm, ← Int.natCast_mul]; omega
  have hr := run_make (P := P) w t e i0 z ht h2 h3 .i64 .i64 (n : Int) (n : Int) (by omega) (Int.le_refl _) hbb (by omega)
  simp only [Int.toNat_natCast] at hr
  unfold Oper.wp
  have hbk : Bk (w.alloc (.cells (madeCells z.cells (n * i0.size)) e)) w.heap.size e enc (List.replicate n x0) := Bk.mk w e _ (by rw [h4]; exact made_list hz hs n)
  simp [execOp, hop, hl, hc, hr, Result.andThen]
  exact hK' _ _ (hK _ hbk)
end Go.Sx
