/-
  Libraries of these proofs, laid as one text: Mk, Mk2, Ap, Os, Az, Ins, SzM, SzL, Ow, Zr, Cv, Shut, Bulk, Row, Wd, Opn, Bas, SzN, ScM, ScV, Vq.
-/
import Derived.Test.YtgfaiihekibcbaaGreatDoorLibA
import Derived.OwnWalk
import Derived.Deep.AppendSrc
import Derived.ArgAppend
import Derived.WalkKit
import Derived.Lib.LaidTab
import Derived.Deep.MidRow
import Derived.BigQuiet
import Derived.Test.YtgfaiihekibcbaaGreatDoorRows
import Derived.ProofKit
import Derived.OpenShut
import Derived.JoinedCond
import Derived.SizedLaws
import Derived.Deep.Slices
import Derived.Deep.CondSized
import Derived.Deep.DeepHandedRow
import Derived.ChangeKeysEq
/-
  A row that the call makes by 'make' and fills: its block is known whole.
-/
set_option linter.unusedVariables false
namespace Go.Sx
open Go.RowKit

/-- Block g is, whole, the row of xs. -/
def Bk {α : Type} (w : World) (g : Nat) (e : TypeId) (enc : α → List Value) (xs : List α) : Prop := ∃ cs : Array Value, w.heap[g]? = some (.cells cs e (0, 0)) ∧ cs.toList = xs.flatMap enc

section
variable {α : Type} {w w' : World} {g : Nat} {e : TypeId} {sz : Nat} {enc : α → List Value} {xs : List α}

theorem Bk.lt (h : Bk w g e enc xs) : g < w.heap.size := by obtain ⟨cs, h, _⟩ := h; exact (Array.getElem?_eq_some_iff.1 h).1
theorem Bk.ext (h : Bk w g e enc xs) (x : Ext w w') : Bk w' g e enc xs := by
  obtain ⟨cs, h1, h2⟩ := h
  exact ⟨cs, by rw [x.block g (Array.getElem?_eq_some_iff.1 h1).1]; exact h1, h2⟩
theorem Bk.alloc (h : Bk w g e enc xs) (o : Obj) : Bk (w.alloc o) g e enc xs := h.ext (Ext.alloc' w o)
theorem Bk.ne (h : Bk w g e enc xs) (p : Addr) (v : Value) (hp : g ≠ p.block) : Bk (w.setCell p v) g e enc xs := by
  obtain ⟨cs, h1, h2⟩ := h
  exact ⟨cs, (Below.heap_setCell w p v g hp).trans h1, h2⟩
theorem Bk.mk (w : World) (e : TypeId) (cs : Array Value) (h : cs.toList = xs.flatMap enc) : Bk (w.alloc (.cells cs e)) w.heap.size e enc xs :=
  ⟨cs, by show (w.heap.push _)[w.heap.size]? = _; simp, h⟩

theorem flatMap_len' (hl : ∀ x ∈ xs, (enc x).length = sz) : (xs.flatMap enc).length = xs.length * sz := by
  induction xs with
  | nil => simp
  | cons y ys ih => rw [List.flatMap_cons, List.length_append, hl y (by simp), ih (fun z hz => hl z (by simp [hz])), List.length_cons, Nat.succ_mul]; omega

theorem Bk.cell (h : Bk w g e enc xs) (hl : ∀ x ∈ xs, (enc x).length = sz) (k j : Nat) (hk : k < xs.length) (hj : j < sz) : w.cell? ⟨g, k * sz + j, none⟩ = some ((enc xs[k]).getD j undef) := by
  obtain ⟨cs, h1, h2⟩ := h
  unfold World.cell?
  simp only [h1]
  have := flatMap_get hl k j hk hj
  rw [← h2] at this
  simpa using this
theorem Bk.ex (h : Bk w g e enc xs) (hl : ∀ x ∈ xs, (enc x).length = sz) (k j : Nat) (hk : k < xs.length) (hj : j < sz) : ∃ y, w.cell? ⟨g, k * sz + j, none⟩ = some y := ⟨_, h.cell hl k j hk hj⟩
theorem Bk.ex0 (h : Bk w g e enc xs) (hl : ∀ x ∈ xs, (enc x).length = sz) (k : Nat) (hk : k < xs.length) (hj : 0 < sz) : ∃ y, w.cell? ⟨g, k * sz, none⟩ = some y := h.ex hl k 0 hk hj
theorem Bk.free (h : Bk w g e enc xs) (j : Nat) : w.frozen? ⟨g, j, none⟩ = false := by
  obtain ⟨cs, h1, _⟩ := h
  unfold World.frozen?
  simp [h1]
theorem Bk.sl (h : Bk w g e enc xs) (hl : ∀ x ∈ xs, (enc x).length = sz) {n : Nat} (hn : n = xs.length) (hb : xs.length ≤ 140737488351232) : Sl w sz enc (.slice (some ⟨g, 0, none⟩) n n) xs := by
  subst hn
  refine ⟨_, _, rfl, Nat.le_refl _, by simp [maxLen]; omega, hb, fun i hi => ⟨_, rfl, fun j hj => ?_⟩⟩
  have hb : ((⟨g, 0, none⟩ : Addr).add (i * sz + j)) = ⟨g, i * sz + j, none⟩ := by unfold Addr.add; split <;> simp_all
  rw [hb]
  exact h.cell hl i j hi hj

theorem heap_setCells (w : World) (g : Nat) (t : TypeId) : ∀ (vs : List Value) (o : Nat) (w : World) (cs : Array Value), w.heap[g]? = some (.cells cs t (0, 0)) →
    ∃ cs' : Array Value, (w.setCells g o vs).heap[g]? = some (.cells cs' t (0, 0)) ∧ cs'.size = cs.size ∧ ∀ j, cs'[j]? = if o ≤ j ∧ j < o + vs.length ∧ j < cs.size then vs[j - o]? else cs[j]?
  | [], o, w, cs, h => ⟨cs, h, rfl, fun j => by rw [if_neg (by simp; omega)]⟩
  | v :: vs, o, w, cs, h => by
    have h1 := heap_setCell_same w g o cs t v h
    obtain ⟨cs', h2, h3, h4⟩ := heap_setCells w g t vs (o + 1) (w.setCell ⟨g, o, none⟩ v) _ h1
    refine ⟨cs', h2, by rw [h3]; simp, fun j => ?_⟩
    rw [h4 j]
    simp only [Array.size_setIfInBounds, List.length_cons]
    by_cases hj : j = o
    · subst hj
      rw [if_neg (by omega)]
      by_cases hs : j < cs.size
      · rw [if_pos (by omega)]; simp [hs]
      · rw [if_neg (by omega)]
        simp [hs]
    · by_cases hr : o + 1 ≤ j ∧ j < o + 1 + vs.length ∧ j < cs.size
      · rw [if_pos hr, if_pos (by omega)]
        rw [show j - o = (j - (o + 1)) + 1 by omega, List.getElem?_cons_succ]
      · rw [if_neg hr, if_neg (by omega)]
        rw [Array.getElem?_setIfInBounds_ne (by omega)]

/-- One element written, all its cells. -/
theorem Bk.put (h : Bk w g e enc xs) (hl : ∀ x ∈ xs, (enc x).length = sz) (y : α) (hy : (enc y).length = sz) (k : Nat) (hk : k < xs.length) : Bk (w.setCells g (k * sz) (enc y)) g e enc (xs.set k y) := by
  obtain ⟨cs, h1, h2⟩ := h
  obtain ⟨cs', h3, h4, h5⟩ := heap_setCells w g e (enc y) (k * sz) w cs h1
  refine ⟨cs', h3, ?_⟩
  have hlen : cs.size = xs.length * sz := by rw [← Array.length_toList, h2, flatMap_len' hl]
  have hl' : ∀ x ∈ xs.set k y, (enc x).length = sz := fun x hx => by
    rcases List.mem_or_eq_of_mem_set hx with h | h
    · exact hl x h
    · rw [h]; exact hy
  have hkk : k * sz + sz ≤ xs.length * sz := by
    have := Nat.mul_le_mul_right sz (show k + 1 ≤ xs.length from hk)
    rw [Nat.succ_mul] at this; exact this
  apply List.ext_getElem?
  intro j
  rw [Array.getElem?_toList, h5 j, hy]
  by_cases hj : j < xs.length * sz
  · have hsz : 0 < sz := by rcases Nat.eq_zero_or_pos sz with h | h; (rw [h] at hj; omega); exact h
    have e1 : j = j / sz * sz + j % sz := by rw [Nat.mul_comm]; exact (Nat.div_add_mod j sz).symm
    have e2 : j / sz < xs.length := by rw [Nat.div_lt_iff_lt_mul hsz]; exact hj
    have e3 : j % sz < sz := Nat.mod_lt _ hsz
    have g1 := flatMap_get hl' (j / sz) (j % sz) (by simpa using e2) e3
    rw [← e1] at g1
    rw [g1]
    by_cases hc : j / sz = k
    · have hb1 : k * sz ≤ j := by rw [← hc]; omega
      have hb2 : j < k * sz + sz := by rw [← hc]; omega
      rw [if_pos ⟨hb1, hb2, by omega⟩]
      have hm : j - k * sz = j % sz := by rw [← hc]; omega
      simp only [List.getElem_set, hc, if_true]
      rw [hm, List.getElem?_eq_getElem (by omega)]
      simp [List.getD, List.getElem?_eq_getElem (show j % sz < (enc y).length by omega)]
    · have hn : ¬ (k * sz ≤ j ∧ j < k * sz + sz ∧ j < cs.size) := fun ⟨p, q, _⟩ => hc (by
        apply Nat.le_antisymm
        · exact Nat.le_of_lt_succ ((Nat.div_lt_iff_lt_mul hsz).2 (by rw [Nat.succ_mul]; exact q))
        · exact (Nat.le_div_iff_mul_le hsz).2 p)
      rw [if_neg hn]
      have g2 := flatMap_get hl (j / sz) (j % sz) e2 e3
      rw [← e1, ← h2, Array.getElem?_toList] at g2
      rw [g2, List.getElem_set_ne (by omega)]
  · rw [if_neg (by omega), Array.getElem?_eq_none (by omega), List.getElem?_eq_none (by rw [flatMap_len' hl']; simpa using hj)]

theorem setCells_ext {a : World} (h : Ext a w) {g : Nat} (hg : a.heap.size ≤ g) (vs : List Value) : ∀ (o : Nat), Ext a (w.setCells g o vs) := by
  induction vs generalizing w with
  | nil => intro o; exact h
  | cons v vs ih => intro o; exact ih (h.setCell hg v) (o + 1)

theorem made_list {z : Value} {x0 : α} (hz : z.cells.toList = enc x0) (hs : (enc x0).length = sz) (n : Nat) : (madeCells z.cells (n * sz)).toList = (List.replicate n x0).flatMap enc := by
  have hl : ∀ x ∈ List.replicate n x0, (enc x).length = sz := fun x hx => by rw [List.eq_of_mem_replicate hx]; exact hs
  apply List.ext_getElem?
  intro j
  by_cases hj : j < n * sz
  · have hsz : 0 < sz := by rcases Nat.eq_zero_or_pos sz with h | h; (rw [h] at hj; omega); exact h
    have e1 : j = j / sz * sz + j % sz := by rw [Nat.mul_comm]; exact (Nat.div_add_mod j sz).symm
    have e2 : j / sz < n := by rw [Nat.div_lt_iff_lt_mul hsz]; exact hj
    have e3 : j % sz < sz := Nat.mod_lt _ hsz
    have g1 := flatMap_get hl (j / sz) (j % sz) (by simpa using e2) e3
    rw [← e1] at g1
    rw [g1]
    have hzs : z.cells.size = sz := by rw [← Array.length_toList, hz, hs]
    simp only [madeCells, Array.toList_map, Array.toList_range, List.getElem?_map, List.getElem?_range hj, Option.map_some, List.getElem_replicate, Option.some.injEq]
    rw [← hz, hzs]
    rw [getElem!_pos z.cells (j % sz) (by omega)]
    simp [List.getD, show j % sz < z.cells.size by omega]
  · rw [List.getElem?_eq_none (by simp [madeCells]; omega), List.getElem?_eq_none (by rw [flatMap_len' hl]; simpa using hj)]
end

/-- A slice of a slice. -/
theorem Sl.mid {α : Type} {w : World} {sz : Nat} {enc : α → List Value} {b o n cap : Nat} {xs : List α} (S : Sl w sz enc (.slice (some ⟨b, o, none⟩) n cap) xs) (k m c : Nat) (hm : m ≤ xs.length) (hk : k ≤ m) (hc : m - k ≤ c) (hc2 : c ≤ maxLen) :
    Sl w sz enc (.slice (some ⟨b, o + k * sz, none⟩) (m - k) c) ((xs.take m).drop k) := by
  obtain ⟨a, c', e, h1, h2, h3, h4⟩ := S
  injection e with e1 e2 e3
  subst e2
  have hl : ((xs.take m).drop k).length = m - k := by simp; omega
  refine ⟨_, c, by rw [hl], by omega, hc2, by omega, fun i hi => ⟨_, rfl, fun j hj => ?_⟩⟩
  obtain ⟨a', ha, hcc⟩ := h4 (k + i) (by omega)
  cases e1.trans ha
  have := hcc j hj
  rw [Addr.add_lit] at this ⊢
  rw [show o + k * sz + (i * sz + j) = o + ((k + i) * sz + j) by rw [Nat.add_mul]; omega, this]
  simp

theorem Sl.first {α : Type} {w : World} {sz : Nat} {enc : α → List Value} {b o n cap : Nat} {xs : List α} (S : Sl w sz enc (.slice (some ⟨b, o, none⟩) n cap) xs) (m : Nat) (hm : m ≤ xs.length) :
    Sl w sz enc (.slice (some ⟨b, o, none⟩) m cap) (xs.take m) := by
  obtain ⟨_, _, e, h1, h2, h3⟩ := S.len
  injection e with e1 e2 e3
  subst e3
  simpa using Sl.mid S 0 m cap hm (Nat.zero_le _) (by omega) h2
/-- A row just laid. -/
theorem OwnR.lit {α : Type} (w : World) {B : Nat} {e : TypeId} {sz : Nat} {enc : α → List Value} (cs : Array Value) (xs : List α) (n : Nat) (hn : xs.length = n) (hB : B ≤ w.heap.size) (hcs : cs.toList = xs.flatMap enc) (hsz : cs.size = n * sz) (hm : n ≤ maxLen) :
    OwnR (w.alloc (.cells cs e)) B e sz enc (.slice (some ⟨w.heap.size, 0, none⟩) n n) xs := by
  subst hn
  have := World.ownsRow_lit (base := B) (e := e) (size := sz) w cs xs.length hB hm hsz
  unfold OwnR
  rw [← hcs]; exact this

/-- The cells of a block that is known whole. -/
theorem row_news {w : World} {g : Nat} {cs : Array Value} {t : TypeId} {fr : Nat × Nat} (h : w.heap[g]? = some (.cells cs t fr)) (j : Nat) (u : Value) (hu : cs.toList[j]? = some u) : w.cell? ((⟨g, 0, none⟩ : Addr).add j) = some u := by
  have hb : ((⟨g, 0, none⟩ : Addr).add j) = ⟨g, j, none⟩ := by unfold Addr.add; split <;> simp_all
  rw [hb]
  exact row_at h j u hu
theorem stable_true : Stable Ext (fun _ => True) := fun _ _ _ _ => trivial

/-- make([]T, n). -/
theorem wpList_mk {α : Type} {P : Program} {w : World} {ops : Array Oper} {rest : List Oper} {o : Oper} {a : Act} {Q : Exit → Act → World → Prop} {t e : TypeId} {sz bytes : Nat} {enc : α → List Value} {z : Value} (x0 : α)
    (ht : P.underlying t = some (.slice e)) (hi : (P.info? e).map (fun i => (i.zero, i.size, i.bytes)) = some (some z, sz, bytes)) (hz : z.cells.toList = enc x0) (hs : (enc x0).length = sz)
    (hg : o.guard = none) (l c : Operand) (hop : o.op = Op.makeSlice t l c) (n : Nat) (hl : a.eval l = .int .i64 (n : Int)) (hc : a.eval c = .int .i64 (n : Int)) (hb : n * bytes ≤ 281474976710656) (hn : n ≤ 140737488351232)
    (hK : ∀ cs, Bk (w.alloc (.cells cs e)) w.heap.size e enc (List.replicate n x0) → wpList P ops Q rest (a.put o.dst (.slice (some ⟨w.heap.size, 0, none⟩) n n)) (w.alloc (.cells cs e))) :
    wpList P ops Q (o :: rest) a w := by
  refine wpList_plain hg fun K hK' => ?_
  obtain ⟨i0, h2, h3, h4, h5⟩ := info_parts hi
  have hbb : (i0.bytes : Int) * (n : Int) ≤ 281474976710656 := by
    rw [h5, Int.mul_comm, ← Int.natCast_mul]; omega
  have hr := run_make (P := P) w t e i0 z ht h2 h3 .i64 .i64 (n : Int) (n : Int) (by omega) (Int.le_refl _) hbb (by omega)
  simp only [Int.toNat_natCast] at hr
  unfold Oper.wp
  have hbk : Bk (w.alloc (.cells (madeCells z.cells (n * i0.size)) e)) w.heap.size e enc (List.replicate n x0) := Bk.mk w e _ (by rw [h4]; exact made_list hz hs n)
  simp [execOp, hop, hl, hc, hr, Result.andThen]
  exact hK' _ _ (hK _ hbk)
end Go.Sx

/-
  make in a region that draws its order.
-/
namespace Go.Sx
open Go.RowKit
theorem opR_mk {α : Type} {P : Program} {w : World} {o : Oper} {a : Act} {K : Value → World → Prop} {t e : TypeId} {sz bytes : Nat} {enc : α → List Value} {z : Value} (x0 : α)
    (ht : P.underlying t = some (.slice e)) (hi : (P.info? e).map (fun i => (i.zero, i.size, i.bytes)) = some (some z, sz, bytes)) (hz : z.cells.toList = enc x0) (hs : (enc x0).length = sz)
    (l c : Operand) (hop : o.op = Op.makeSlice t l c) (n : Nat) (hl : a.eval l = .int .i64 (n : Int)) (hc : a.eval c = .int .i64 (n : Int)) (hb : n * bytes ≤ 281474976710656) (hn : n ≤ 140737488351232)
    (hK : ∀ cs, Bk (w.alloc (.cells cs e)) w.heap.size e enc (List.replicate n x0) → K (.slice (some ⟨w.heap.size, 0, none⟩) n n) (w.alloc (.cells cs e))) :
    opR P o a w K := by
  obtain ⟨i0, h2, h3, h4, h5⟩ := info_parts hi
  have hbb : (i0.bytes : Int) * (n : Int) ≤ 281474976710656 := by
    rw [h5, Int.mul_comm, ← Int.natCast_mul]; omega
  have hr := run_make (P := P) w t e i0 z ht h2 h3 .i64 .i64 (n : Int) (n : Int) (by omega) (Int.le_refl _) hbb (by omega)
  simp only [Int.toNat_natCast] at hr
  have hbk : Bk (w.alloc (.cells (madeCells z.cells (n * i0.size)) e)) w.heap.size e enc (List.replicate n x0) := Bk.mk w e _ (by rw [h4]; exact made_list hz hs n)
  unfold opR
  simp [execOp, hop, hl, hc, hr, Result.andThen, uponR]
  exact hK _ hbk
end Go.Sx

/-
  append of a whole slice, nil or not, onto an owned row.
-/
namespace Go.Sx
open Go.RowKit

theorem run_append_none {P : Program} (w : World) {t e ty : TypeId} {i : TypeInfo} (ht : P.underlying t = some (.slice e)) (hi : P.info? e = some i) (a? : Option Addr) (n cap c : Nat) (hn : n ≤ cap) (hs : ∀ a, a? = some a → a.spot = none) :
    (Builtin.append_ #[t, t] ty #[.slice a? n cap, .slice none 0 c]).run P w = .ok (.slice a? n cap) w := by
  cases a? with
  | none => simp [Builtin.append_, run_underlying ht, sizeOf, typeInfo, hi, Builtin.lenOf, Builtin.firstCells, hn]
  | some a =>
    obtain ⟨b, o, s⟩ := a
    cases hs _ rfl
    rw [run_append_room_src (P := P) w t t ty e i ht hi b o n cap (.slice none 0 c) 0 [] (Src.ofNil w ht c) (by omega) (fun j hj => absurd hj (by simp)) (fun j hj => absurd hj (by simp))]
    rfl

section
variable {α : Type} {B : Nat} {e : TypeId} {sz : Nat} {enc : α → List Value} {v : Value} {xs : List α} {w : World}

/-- append of all that a slice holds. -/
theorem wpList_own_sl {P : Program} {t : TypeId} {bytes : Nat} (E : ET P t e sz bytes) {ops : Array Oper} {rest : List Oper} {o : Oper} {a : Act} {Q : Exit → Act → World → Prop} (hgd : o.guard = none) (s x : Operand)
    (ho : o.op = .call { callee := .builtin .append, args := #[s, x], argTypes := #[t, t] })
    (hown : OwnR w B e sz enc v xs) (hs : a.eval s = v) (ys : List α) (u : Value) (S : Sl w sz enc u ys) (hx : a.eval x = u) (hl : ∀ y ∈ ys, (enc y).length = sz)
    (h1 : ∀ y ∈ ys, ∀ u ∈ enc y, u.oneCell' = true)
    (hbytes : (xs.length + ys.length) * bytes ≤ 140737488355328) (hbase : B ≤ w.heap.size)
    (h : ∀ v' w', OwnR w' B e sz enc v' (xs ++ ys) → Below B w w' → Appd w w' v v' → wpList P ops Q rest (a.put o.dst v') w') : wpList P ops Q (o :: rest) a w := by
  obtain ⟨a?, cap, rfl, h2, h3, h4, h5⟩ := S
  cases a? with
  | some ad =>
    refine wpList_own_app E hgd s x ho hown hs ys ad cap hx hl (fun j u hu => ?_) h1 hbytes hbase fun v' w' k1 k2 k3 _ => h v' w' k1 k2 k3
    have hszp := E.hs
    have hj : j < ys.length * sz := by
      have := (List.getElem?_eq_some_iff.1 hu).1
      rwa [show (ys.flatMap enc).length = ys.length * sz from by
        clear hu this h5 hx hbytes h h1 h2 h3 h4
        induction ys with
        | nil => simp
        | cons y ys ih => rw [List.flatMap_cons, List.length_append, hl y (by simp), ih (fun z hz => hl z (by simp [hz])), List.length_cons, Nat.succ_mul]; omega] at this
    have hq : j / sz < ys.length := (Nat.div_lt_iff_lt_mul hszp).2 hj
    have hr : j % sz < sz := Nat.mod_lt _ hszp
    obtain ⟨ad', e1, hc⟩ := h5 (j / sz) hq
    cases e1
    have hd : j / sz * sz + j % sz = j := by rw [Nat.mul_comm]; exact Nat.div_add_mod j sz
    have hc2 := hc (j % sz) hr
    rw [hd] at hc2
    have hg := flatMap_get hl (j / sz) (j % sz) hq hr
    rw [hd, hu] at hg
    rw [hc2, ← hg]
  | none =>
    have hy : ys = [] := by
      cases ys with
      | nil => rfl
      | cons y ys => obtain ⟨ad, e1, _⟩ := h5 0 (by simp); cases e1
    subst hy
    obtain ⟨ht, ⟨i, z, hi, hz, hsz, hby, hzs⟩, hs0, hb0⟩ := E
    have hshape := hown
    obtain ⟨_, hr⟩ := hown
    have hv : ∃ a? c2, v = .slice a? xs.length c2 ∧ xs.length ≤ c2 ∧ (∀ ad, a? = some ad → ad.spot = none) := by
      rcases hr with ⟨rfl, hx0⟩ | ⟨g, cap2, cur, rfl, _, _, _, hcap⟩
      · exact ⟨none, 0, by rw [hx0], by rw [hx0]; exact Nat.le_refl _, fun _ h => by cases h⟩
      · exact ⟨_, _, rfl, by omega, fun ad h => by cases h; rfl⟩
    obtain ⟨va, c2, rfl, hle, hsp⟩ := hv
    refine wpList_plain hgd fun K hK => ?_
    unfold Oper.wp execOp
    simp only [ho, resolve, invoke, builtin, Sem.run_bind, Sem.run_pure, Result.andThen_ok, List.map_toArray, List.map_cons, List.map_nil, hs, hx, List.length_nil, run_append_none w ht hi va xs.length c2 cap hle hsp]
    refine hK _ _ (h _ w (by rw [List.append_nil]; exact hshape) (Below.refl _ _) ⟨fun b hb hne => rfl, .inl rfl, Nat.le_refl _, rfl, rfl, rfl⟩)
end
end Go.Sx

/-
  Stores into an owned row.
-/
set_option linter.unusedVariables false
namespace Go.Sx
open Go.RowKit

section
variable {α : Type} {B : Nat} {e : TypeId} {sz : Nat} {enc : α → List Value} {v : Value} {xs : List α} {w : World}

theorem flatMap_set (hl : ∀ x ∈ xs, (enc x).length = sz) (k j : Nat) (hk : k < xs.length) (hj : j < sz) (y : α) (u : Value) (hy : enc y = (enc xs[k]).set j u) : (xs.flatMap enc).set (k * sz + j) u = (xs.set k y).flatMap enc := by
  have hly : (enc y).length = sz := by rw [hy, List.length_set]; exact hl _ (List.getElem_mem _)
  have hl' : ∀ x ∈ xs.set k y, (enc x).length = sz := fun x hx => by
    rcases List.mem_or_eq_of_mem_set hx with h | h
    · exact hl x h
    · rw [h]; exact hly
  have hlen := flatMap_len' hl
  have hlen' := flatMap_len' hl'
  rw [List.length_set] at hlen'
  apply List.ext_getElem?
  intro i
  by_cases hi : i < xs.length * sz
  · have hsz : 0 < sz := by omega
    have e1 : i = i / sz * sz + i % sz := by rw [Nat.mul_comm]; exact (Nat.div_add_mod i sz).symm
    have e2 : i / sz < xs.length := by rw [Nat.div_lt_iff_lt_mul hsz]; exact hi
    have e3 : i % sz < sz := Nat.mod_lt _ hsz
    have g1 := flatMap_get hl' (i / sz) (i % sz) (by simpa using e2) e3
    have g2 := flatMap_get hl (i / sz) (i % sz) e2 e3
    rw [← e1] at g1 g2
    rw [g1]
    by_cases hc : i = k * sz + j
    · have h1 : i / sz = k := by
        rw [hc, Nat.mul_comm, Nat.mul_add_div hsz, Nat.div_eq_of_lt hj]; omega
      have h2 : i % sz = j := by rw [hc, Nat.mul_comm, Nat.mul_add_mod, Nat.mod_eq_of_lt hj]
      rw [← hc, List.getElem?_set_self (by rw [hlen]; exact hi)]
      simp only [h1, h2, List.getElem_set_self]
      rw [hy]
      simp [List.getD, show j < (enc xs[k]).length by rw [hl _ (List.getElem_mem _)]; exact hj]
    · rw [List.getElem?_set_ne (by omega), g2]
      congr 1
      by_cases h1 : i / sz = k
      · have h2 : i % sz ≠ j := fun h => hc (by rw [e1, h1, h])
        simp only [h1, List.getElem_set_self]
        rw [hy]
        simp [List.getD, List.getElem?_set_ne (Ne.symm h2)]
      · rw [List.getElem_set_ne (by omega)]
  · rw [List.getElem?_eq_none (by rw [List.length_set, hlen]; omega), List.getElem?_eq_none (by rw [hlen']; omega)]

theorem OwnR.store {g n cap : Nat} (h : OwnR w B e sz enc (.slice (some ⟨g, 0, none⟩) n cap) xs) (hl : ∀ x ∈ xs, (enc x).length = sz) (k j : Nat) (hk : k < xs.length) (hj : j < sz) (y : α) (u : Value) (hy : enc y = (enc xs[k]).set j u) :
    OwnR (w.setCell ⟨g, k * sz + j, none⟩ u) B e sz enc (.slice (some ⟨g, 0, none⟩) n cap) (xs.set k y) := by
  have hn : n = xs.length := by
    obtain ⟨a, c, e'⟩ := h.len
    injection e'
  subst hn
  have := (World.ownsRow.stored h (k * sz + j) u).1
  unfold OwnR
  rw [List.length_set, ← flatMap_set hl k j hk hj y u hy]
  exact this
/-- A nonempty owned row: its block. -/
theorem OwnR.block (h : OwnR w B e sz enc v xs) (hx : xs ≠ []) : ∃ g cap, v = .slice (some ⟨g, 0, none⟩) xs.length cap ∧ B ≤ g ∧ g < w.heap.size ∧ ∀ j, w.frozen? ⟨g, j, none⟩ = false := by
  obtain ⟨h1, ⟨rfl, h0⟩ | ⟨g, cap, cur, rfl, hB, hg, hn, hm, hsz, ht⟩⟩ := h
  · exact absurd (List.eq_nil_of_length_eq_zero h0) hx
  · refine ⟨g, cap, rfl, hB, (Array.getElem?_eq_some_iff.1 hg).1, fun j => ?_⟩
    unfold World.frozen?
    simp [hg]
theorem OwnR.cell {g n cap : Nat} (h : OwnR w B e sz enc (.slice (some ⟨g, 0, none⟩) n cap) xs) (hl : ∀ x ∈ xs, (enc x).length = sz) (k j : Nat) (hk : k < xs.length) (hj : j < sz) : w.cell? ⟨g, k * sz + j, none⟩ = some ((enc xs[k]).getD j undef) := by
  have hc := World.ownsRow.cells h (g := g) rfl _ _ (flatMap_get hl k j hk hj)
  have hb : ((⟨g, 0, none⟩ : Addr).add (k * sz + j)) = ⟨g, k * sz + j, none⟩ := by unfold Addr.add; split <;> simp_all
  rwa [hb] at hc
end
end Go.Sx

/-
  append to a literal without elements, and kinds of things that are made in regions that draw.
-/
set_option linter.unusedVariables false
namespace Go.Sx
open Go.RowKit

section
variable {α : Type} {B : Nat} {e : TypeId} {sz : Nat} {enc : α → List Value} {w : World}

theorem Sl.news {ys : List α} {ad : Addr} {n c : Nat} (S : Sl w sz enc (.slice (some ad) n c) ys) (hsz : 0 < sz) (hl : ∀ y ∈ ys, (enc y).length = sz) : ∀ j u, (ys.flatMap enc)[j]? = some u → w.cell? (ad.add j) = some u := fun j u hu => by
  obtain ⟨a?, c', e, h2, h3, h4, h5⟩ := S
  injection e with e1 e2 e3
  have hj : j < ys.length * sz := by
    have := (List.getElem?_eq_some_iff.1 hu).1
    rwa [flatMap_len' hl] at this
  have hq : j / sz < ys.length := (Nat.div_lt_iff_lt_mul hsz).2 hj
  have hr : j % sz < sz := Nat.mod_lt _ hsz
  obtain ⟨ad', e4, hc⟩ := h5 (j / sz) hq
  cases e1.trans e4
  have hd : j / sz * sz + j % sz = j := by rw [Nat.mul_comm]; exact Nat.div_add_mod j sz
  have hc2 := hc (j % sz) hr
  rw [hd] at hc2
  have hg := flatMap_get hl (j / sz) (j % sz) hq hr
  rw [hd, hu] at hg
  rw [hc2, ← hg]

/-! ### Kinds -/
theorem OwnR.row {v : Value} {xs : List α} (h : OwnR w B e sz enc v xs) : ∃ a? c, v = .slice a? xs.length c := h.len
end
end Go.Sx

/-
  Regions in which several appends follow one another: what an append leaves alone, small rows among it.
-/
set_option linter.unusedVariables false
namespace Go.Sx
open Go.RowKit

/-- Below B nothing turns, nor does any row of at most sz cells. -/
structure Keeps (B sz : Nat) (w w' : World) : Prop where
  os : w'.os = w.os
  tape : w'.tape = w.tape
  output : w'.output = w.output
  size : w.heap.size ≤ w'.heap.size
  low : ∀ b, b < B → b < w.heap.size → w'.heap[b]? = w.heap[b]?
  small : ∀ (b : Nat) (cs : Array Value) (e : TypeId) (fz : Nat × Nat), w.heap[b]? = some (.cells cs e fz) → cs.size ≤ sz → w'.heap[b]? = some (.cells cs e fz)

section
variable {α : Type} {B sz : Nat} {e : TypeId} {enc : α → List Value} {w w' : World}

theorem Sl1.stableK (B' B : Nat) (e : TypeId) (cs : Array Value) (v : Value) (h : cs.size ≤ sz) : Stable (Keeps B' sz) (Sl1 B e cs v) := by
  rintro w w' ⟨b, h1, h2, h3⟩ k
  exact ⟨b, h1, h2, k.small _ _ _ _ h3 h⟩

/-- A literal without elements. -/
def Lit0 (B : Nat) (e : TypeId) (v : Value) (w : World) : Prop := ∃ g, v = .slice (some ⟨g, 0, none⟩) 0 0 ∧ B ≤ g ∧ w.heap[g]? = some (.cells #[] e (0, 0))
theorem Lit0.stableK (B' B : Nat) (e : TypeId) (v : Value) : Stable (Keeps B' sz) (Lit0 B e v) := by
  rintro w w' ⟨b, h1, h2, h3⟩ k
  exact ⟨b, h1, h2, k.small _ _ _ _ h3 (Nat.zero_le _)⟩
theorem Lit0.own {v : Value} (h : Lit0 B e v w) : OwnR w B e sz enc v ([] : List α) := by
  obtain ⟨g, rfl, h2, h3⟩ := h
  exact ⟨by simp, .inr ⟨g, 0, #[], rfl, h2, h3, Nat.le_refl _, Nat.zero_le _, by simp, by simp⟩⟩
theorem Lit0.new (w : World) {B : Nat} (hB : B ≤ w.heap.size) (e : TypeId) : Lit0 B e (.slice (some ⟨w.heap.size, 0, none⟩) 0 0) (w.alloc (.cells #[] e)) := ⟨_, rfl, hB, World.alloc_heap_new w _⟩

/-- x[k:m] of a slice. -/
theorem Sl.cut {a? : Option Addr} {n cap : Nat} {xs : List α} (S : Sl w sz enc (.slice a? n cap) xs) (hsz : 0 < sz) (k m : Nat) (hk : k ≤ m) (hm : m ≤ xs.length) : Sl w sz enc (sliced a? k m cap sz) ((xs.take m).drop k) := by
  obtain ⟨_, _, e1, h1, h2, h3⟩ := S.len
  injection e1 with e1 e2 e3
  subst e2 e3
  unfold sliced
  have hl : ((xs.take m).drop k).length = m - k := by simp; omega
  by_cases hkm : k = m
  · subst hkm
    refine ⟨_, _, by rw [hl], by omega, by omega, by omega, fun i hi => by omega⟩
  · obtain ⟨b, o, rfl, _⟩ := S.at hsz k (by omega)
    rw [if_neg (by omega)]
    simp only [Option.map_some, Addr.add_lit]
    exact Sl.mid S k m (cap - k) hm hk (by omega) (by omega)
end
end Go.Sx

/-
  Plain definitions on pitches and sizes (no program in sight).
-/
namespace Go.Sx.Sz

/-- Six exponents. -/
structure V6 where
  a : Int
  b : Int
  c : Int
  d : Int
  e : Int
  f : Int
deriving Inhabited, DecidableEq

def V6.get (v : V6) : Nat → Int
  | 0 => v.a
  | 1 => v.b
  | 2 => v.c
  | 3 => v.d
  | 4 => v.e
  | _ => v.f
def V6.of (g : Nat → Int) : V6 := ⟨g 0, g 1, g 2, g 3, g 4, g 5⟩
theorem lt6 {k : Nat} (h : k < 6) : k = 0 ∨ k = 1 ∨ k = 2 ∨ k = 3 ∨ k = 4 ∨ k = 5 := by omega
theorem V6.get_of (g : Nat → Int) {k : Nat} (h : k < 6) : (V6.of g).get k = g k := by
  rcases lt6 h with rfl | rfl | rfl | rfl | rfl | rfl <;> rfl
theorem V6.of_get (v : V6) : V6.of v.get = v := rfl
theorem V6.ext' {u v : V6} (h : ∀ k, k < 6 → u.get k = v.get k) : u = v := by
  rw [← V6.of_get u, ← V6.of_get v]
  simp only [V6.of, h 0 (by omega), h 1 (by omega), h 2 (by omega), h 3 (by omega), h 4 (by omega), h 5 (by omega)]

/-- The first k exponents are within a bound. -/
def withinK (v : V6) (B : Int) : Nat → Bool
  | 0 => true
  | k + 1 => withinK v B k && (decide (-B ≤ v.get k) && decide (v.get k ≤ B))
def within (v : V6) (B : Int) : Bool := withinK v B 6
theorem withinK_le {v : V6} {B : Int} : ∀ {k j : Nat}, withinK v B k = true → j < k → -B ≤ v.get j ∧ v.get j ≤ B
  | k + 1, j, h, hj => by
    simp only [withinK, Bool.and_eq_true, decide_eq_true_eq] at h
    rcases Nat.lt_or_ge j k with h' | h'
    · exact withinK_le h.1 h'
    · obtain rfl : j = k := by omega
      exact h.2
theorem withinK_false {v : V6} {B : Int} {k : Nat} (hk : k < 6) (h : ¬ (-B ≤ v.get k ∧ v.get k ≤ B)) : within v B = false := by
  cases hw : within v B with
  | false => rfl
  | true => exact absurd (withinK_le hw hk) h
theorem within_iff {v : V6} {B : Int} : within v B = true ↔ ∀ k, k < 6 → -B ≤ v.get k ∧ v.get k ≤ B := by
  refine ⟨fun h k hk => withinK_le h hk, fun h => ?_⟩
  simp [within, withinK, h 0, h 1, h 2, h 3, h 4, h 5]

/-- Each exponent times n. -/
def V6.times (v : V6) (n : Int) : V6 := V6.of fun k => v.get k * n
def V6.sub (u v : V6) : V6 := V6.of fun k => u.get k - v.get k
/-- u plus n times v. -/
def V6.add (u v : V6) (n : Int) : V6 := V6.of fun k => u.get k + n * v.get k
def V6.zero : V6 := ⟨0, 0, 0, 0, 0, 0⟩

def prime : Nat → Int
  | 0 => 2
  | 1 => 3
  | 2 => 5
  | 3 => 7
  | 4 => 11
  | _ => 13
def logLo : Nat → Int
  | 0 => 1000000000
  | 1 => 1584962500
  | 2 => 2321928094
  | 3 => 2807354922
  | 4 => 3459431618
  | _ => 3700439718
def logHi : Nat → Int
  | 0 => 1000000000
  | 1 => 1584962501
  | 2 => 2321928095
  | 3 => 2807354923
  | 4 => 3459431619
  | _ => 3700439719
theorem log_le (k : Nat) : 1000000000 ≤ logLo k ∧ logLo k ≤ logHi k ∧ logHi k ≤ 3700439719 ∧ logHi k ≤ logLo k + 1 := by
  match k with
  | 0 | 1 | 2 | 3 | 4 | n + 5 => refine ⟨?_, ?_, ?_, ?_⟩ <;> (show _ ≤ _; simp only [logLo, logHi]; omega)

/-- A size. -/
structure S2 where
  lo : Int
  hi : Int
deriving Inhabited, DecidableEq
def tLo (x : Int) (k : Nat) : Int := if x < 0 then x * logHi k else x * logLo k
def tHi (x : Int) (k : Nat) : Int := if x < 0 then x * logLo k else x * logHi k
theorem tLo_le (x : Int) (k : Nat) : tLo x k ≤ tHi x k := by
  have h := log_le k
  unfold tLo tHi
  split
  · exact Int.mul_le_mul_of_nonpos_left (by omega) (by omega)
  · exact Int.mul_le_mul_of_nonneg_left (by omega) (by omega)
theorem t_bd {x : Int} {B : Int} (k : Nat) (h1 : -B ≤ x) (h2 : x ≤ B) : -(B * 3700439719) ≤ tLo x k ∧ tHi x k ≤ B * 3700439719 := by
  have h := log_le k
  unfold tLo tHi
  split
  · have e1 : -(x * logHi k) ≤ B * 3700439719 := by
      rw [← Int.neg_mul]
      exact Int.mul_le_mul (by omega) (by omega) (by omega) (by omega)
    have e2 : x * logLo k ≤ 0 := Int.mul_nonpos_of_nonpos_of_nonneg (by omega) (by omega)
    have e3 : 0 ≤ B * 3700439719 := by omega
    omega
  · have e1 : x * logHi k ≤ B * 3700439719 := Int.mul_le_mul (by omega) (by omega) (by omega) (by omega)
    have e2 : 0 ≤ x * logLo k := Int.mul_nonneg (by omega) (by omega)
    have e3 : 0 ≤ B * 3700439719 := by omega
    omega
def sLo (e : V6) : Nat → Int
  | 0 => 0
  | k + 1 => sLo e k + tLo (e.get k) k
def sHi (e : V6) : Nat → Int
  | 0 => 0
  | k + 1 => sHi e k + tHi (e.get k) k
/-- The size of exponents. -/
def expo (e : V6) : S2 := ⟨sLo e 6, sHi e 6⟩
theorem s_bd {e : V6} {B : Int} (h : within e B = true) : ∀ {k : Nat}, k ≤ 6 → -(B * 3700439719 * k) ≤ sLo e k ∧ sLo e k ≤ sHi e k ∧ sHi e k ≤ B * 3700439719 * k
  | 0, _ => by simp [sLo, sHi]
  | k + 1, hk => by
    have ih := s_bd h (k := k) (by omega)
    have hb := withinK_le h (show k < 6 by omega)
    have ht := t_bd k hb.1 hb.2
    have hl := tLo_le (e.get k) k
    simp only [sLo, sHi]
    have : (B * 3700439719 * ((k + 1 : Nat) : Int)) = B * 3700439719 * k + B * 3700439719 := by rw [Int.natCast_add, Int.mul_add]; simp
    omega
theorem within_mono {v : V6} {A B : Int} (h : A ≤ B) (hw : within v A = true) : within v B = true := by
  rw [within_iff] at hw ⊢
  intro k hk
  have := hw k hk
  omega
theorem within_times {v : V6} {B n : Int} (hn : 0 ≤ n) (hw : within v B = true) : within (v.times n) (B * n) = true := by
  rw [within_iff] at hw ⊢
  intro k hk
  have := hw k hk
  rw [V6.times, V6.get_of _ hk, ← Int.neg_mul]
  exact ⟨Int.mul_le_mul_of_nonneg_right this.1 hn, Int.mul_le_mul_of_nonneg_right this.2 hn⟩

def ofR (v : V6) : V6 × Int := if within v 48 = true then (v.times 12, 0) else (V6.zero, 1)
end Go.Sx.Sz

/-
  Laws on arrays of six, on blocks that are known whole, and what the laid tables give.
-/
set_option linter.unusedVariables false
namespace Go.Sx.Sz
open Go.RowKit Go.ChangeShapes Go.WideShapes

def V6.val (v : V6) : Value := .agg #[.int .i64 v.a, .int .i64 v.b, .int .i64 v.c, .int .i64 v.d, .int .i64 v.e, .int .i64 v.f]
def V6.cells (v : V6) : Array Value := #[.int .i64 v.a, .int .i64 v.b, .int .i64 v.c, .int .i64 v.d, .int .i64 v.e, .int .i64 v.f]
def V6.list (v : V6) : List Value := [.int .i64 v.a, .int .i64 v.b, .int .i64 v.c, .int .i64 v.d, .int .i64 v.e, .int .i64 v.f]
theorem V6.cells_at (v : V6) {k : Nat} (h : k < 6) : v.cells[k]? = some (.int .i64 (v.get k)) := by
  rcases lt6 h with rfl | rfl | rfl | rfl | rfl | rfl <;> rfl
/-- One exponent written. -/
def V6.put (v : V6) (k : Nat) (x : Int) : V6 := V6.of fun j => if j = k then x else v.get j
theorem V6.cells_put (v : V6) {k : Nat} (h : k < 6) (x : Int) : v.cells.setIfInBounds k (.int .i64 x) = (v.put k x).cells := by
  rcases lt6 h with rfl | rfl | rfl | rfl | rfl | rfl <;> rfl
theorem V6.put_get (v : V6) {k : Nat} (h : k < 6) (x : Int) {j : Nat} (hj : j < 6) : (v.put k x).get j = if j = k then x else v.get j := V6.get_of _ hj

/-- An element of an array of six integers by value. -/
theorem run_index_v6 {P : Program} {t e : TypeId} (h : P.underlying t = some (.array 6 e)) (he : P.underlying e = some (.int .i64)) (hs : (P.info? e).map (·.size) = some 1) (v : V6) {k : Nat} (hk : k < 6) (w : World) :
    (Instr.index t (.agg #[.int .i64 v.a, .int .i64 v.b, .int .i64 v.c, .int .i64 v.d, .int .i64 v.e, .int .i64 v.f]) (.int .i64 (k : Int))).run P w = .ok (.int .i64 (v.get k)) w := by
  obtain ⟨i, hi, hz⟩ := Option.map_eq_some_iff.1 hs
  have h6 : ((k : Int) < 6) := by omega
  rcases lt6 hk with rfl | rfl | rfl | rfl | rfl | rfl <;>
    simp [Instr.index, run_underlying h, run_underlying he, asIntOf, part, isAgg, sizeOf, typeInfo, hi, hz, V6.get]

/-- A block's cells behind one store. -/
theorem block_set {w : World} {g : Nat} {cs : Array Value} {t : TypeId} (hg : w.heap[g]? = some (.cells cs t (0, 0))) (i : Nat) (v : Value) :
    (w.setCell ⟨g, i, none⟩ v).heap[g]? = some (.cells (cs.setIfInBounds i v) t (0, 0)) := heap_setCell_same w g i cs t v hg
theorem block_ne {w : World} {g k : Nat} {o : Obj} (h : w.heap[k]? = some o) (i : Nat) (v : Value) (hk : k ≠ g) : (w.setCell ⟨g, i, none⟩ v).heap[k]? = some o :=
  (Below.heap_setCell w ⟨g, i, none⟩ v k hk).trans h
theorem block_alloc {w : World} {k : Nat} {o : Obj} (h : w.heap[k]? = some o) (ob : Obj) : (w.alloc ob).heap[k]? = some o := by
  have hk : k < w.heap.size := (Array.getElem?_eq_some_iff.1 h).1
  rw [Below.heap_alloc w ob k hk]; exact h
theorem block_new (w : World) (ob : Obj) : (w.alloc ob).heap[w.heap.size]? = some ob := by
  show (w.heap.push ob)[w.heap.size]? = _
  simp
theorem block_ext {w w' : World} (h : Ext w w') {k : Nat} {o : Obj} (hk : w.heap[k]? = some o) : w'.heap[k]? = some o := by
  rw [h.block k (Array.getElem?_eq_some_iff.1 hk).1]; exact hk
theorem block_lt {w : World} {k : Nat} {o : Obj} (hk : w.heap[k]? = some o) : k < w.heap.size := (Array.getElem?_eq_some_iff.1 hk).1
theorem block_cell {w : World} {g : Nat} {cs : Array Value} {t : TypeId} {fr : Nat × Nat} (h : w.heap[g]? = some (.cells cs t fr)) (j : Nat) (u : Value) (hu : cs[j]? = some u) : w.cell? ⟨g, j, none⟩ = some u := by
  unfold World.cell?
  simp only [h]
  simpa using hu
theorem block_free {w : World} {g : Nat} {cs : Array Value} {t : TypeId} (h : w.heap[g]? = some (.cells cs t (0, 0))) (j : Nat) : w.frozen? ⟨g, j, none⟩ = false := by
  unfold World.frozen?
  simp [h]
/-- A block known whole: two rules for the walk. -/
theorem block_rules {w : World} {g : Nat} {cs : Array Value} {t : TypeId} (h : w.heap[g]? = some (.cells cs t (0, 0))) : (∀ j, w.cell? ⟨g, j, none⟩ = cs[j]?) ∧ (∀ j, w.frozen? ⟨g, j, none⟩ = false) :=
  ⟨fun j => by unfold World.cell?; simp [h], fun j => block_free h j⟩
theorem block_at {w : World} {n : Nat} (h : w.heap.size = n) (ob : Obj) : (w.alloc ob).heap[n]? = some ob := by subst h; exact block_new w ob
/-- What was there is read in the later world as it was: two rules for the walk. -/
theorem _root_.Go.Sx.Ext.rules {W w1 : World} (hb : Ext W w1) : (∀ b o, b < W.heap.size → w1.cell? ⟨b, o, none⟩ = W.cell? ⟨b, o, none⟩) ∧ (∀ b o, b < W.heap.size → w1.frozen? ⟨b, o, none⟩ = W.frozen? ⟨b, o, none⟩) :=
  ⟨fun b o h => Below.cell hb (p := ⟨b, o, none⟩) h, fun b o h => Below.frozen hb (p := ⟨b, o, none⟩) h⟩

theorem _root_.Go.Sx.Ext.drewN {a w : World} (h : Ext a w) (n : Nat) : Ext a (w.drewN n) := h.trans (Ext.drawn w (w.drawn + n))

/-! ### The laid tables -/

theorem laid_var {P : Program} {W : World} : ∀ {laid : List (String × DataW Unit)} {ps : List MemPlace}, DataW.LaidVars P W laid ps → ∀ {n : String} {d : DataW Unit}, (n, d) ∈ laid →
    ∃ g t cs fuel p, P.globalNamed n = some g ∧ (P.globals[g]?).map (·.type) = some t ∧ W.var? P n = some cs ∧ DataW.trod (fun _ => ()) P W 0 (fun _ => true) false fuel t cs.toList = some (d, p)
  | x :: r, ps, h, n, d, hm => by
    obtain ⟨g, t, cs, fuel, p, q, h1, h2, h3, h4, h5, _⟩ := h
    rcases List.mem_cons.1 hm with rfl | hm
    · exact ⟨g, t, cs, fuel, p, h1, h2, h3, h4⟩
    · exact laid_var h5 hm

/-- An array of structs of two integers. -/
theorem cells_of_pairs {H : Type} {enc : TypeId × Value → H} {P : Program} {w : World} {base : Nat} {sp : Nat → Bool} {held : Bool} {fuel : Nat} {t e i : TypeId} {n : Nat} {k : IntKind} {cs : List Value} {zs : List (Int × Int)} {p : List MemPlace} {f0 f1 : Field}
    (ht : P.underlying t = some (.array n e)) (he : P.underlying e = some (.struct #[f0, f1])) (hf0 : f0.type = i ∧ f0.offset = 0) (hf1 : f1.type = i ∧ f1.offset = 1) (hi : P.underlying i = some (.int k)) (hci : P.cellsOf i = 1) (hce : P.cellsOf e = 2) (hct : P.cellsOf t = n * 2)
    (h : DataW.trod enc P w base sp held fuel t cs = some (.agg (zs.map fun z => .agg [.lit (.int k z.1), .lit (.int k z.2)]), p)) :
    ∀ j z, zs[j]? = some z → cs[j * 2]? = some (.int k z.1) ∧ cs[j * 2 + 1]? = some (.int k z.2) := by
  cases fuel with
  | zero => simp [DataW.trod] at h
  | succ fuel =>
    simp only [DataW.trod, ht, hce, hct] at h
    split at h
    · rename_i hl
      obtain ⟨xs, hm, hx⟩ := Option.map_eq_some_iff.1 h
      have hxs : xs.map (·.1) = zs.map fun z => (DataW.agg [.lit (.int k z.1), .lit (.int k z.2)] : DataW H) := by
        have := congrArg Prod.fst hx
        simpa using this
      have hxl : xs.length = n := by simpa using Lib.mapM_length hm
      have hzl : zs.length = n := by
        have := congrArg List.length hxs
        simp at this
        omega
      intro j z hz
      have hj : j < n := by rw [← hzl]; exact (List.getElem?_eq_some_iff.1 hz).1
      obtain ⟨b, hb, hf⟩ := Lib.mapM_at hm j j (by simp [hj])
      have h2 : (xs.map (·.1))[j]? = some b.1 := by simp [hb]
      rw [hxs] at h2
      simp only [List.getElem?_map, hz, Option.map_some, Option.some.injEq] at h2
      obtain ⟨y0, y1, m, hy, hlen, g0, g1⟩ := trod_struct2 he hf
      rw [hf0.1, hf0.2, hci] at g0
      rw [hf1.1, hf1.2, hci] at g1
      obtain ⟨n0, c0, rfl, _⟩ := DataW.trod_int hi g0
      obtain ⟨n1, c1, rfl, _⟩ := DataW.trod_int hi g1
      subst hy
      simp only [DataW.agg.injEq, List.cons.injEq, DataW.lit.injEq, Lit.int.injEq, true_and, and_true] at h2
      obtain ⟨rfl, rfl⟩ := h2
      have e0 := congrArg (·[0]?) c0
      have e1 := congrArg (·[0]?) c1
      simp [List.getElem?_drop] at e0 e1
      exact ⟨e0, e1⟩
    · cases h

/-- The table of the logarithms alone. -/
structure Gl (gl : Nat) (w : World) : Prop where
  los : ∀ i, i < 6 → w.cell? ⟨gl, i * 2, none⟩ = some (.int .i64 (logLo i))
  his : ∀ i, i < 6 → w.cell? ⟨gl, i * 2 + 1, none⟩ = some (.int .i64 (logHi i))
theorem Gl.ext {gl : Nat} {w w' : World} (h : Gl gl w) (x : Ext w w') : Gl gl w' :=
  ⟨fun i hi => x.cell (h.los i hi), fun i hi => x.cell (h.his i hi)⟩
theorem Gl.below {gl B : Nat} {w w' : World} (h : Gl gl w) (x : Below B w w') (h2 : gl < B) : Gl gl w' :=
  ⟨fun i hi => Below.cellc x h2 (h.los i hi), fun i hi => Below.cellc x h2 (h.his i hi)⟩
/-- What the walks read in the package's own tables. -/
structure Gv (gp gl : Nat) (w : World) : Prop where
  primes : ∀ i, i < 6 → w.cell? ⟨gp, i, none⟩ = some (.int .i64 (prime i))
  los : ∀ i, i < 6 → w.cell? ⟨gl, i * 2, none⟩ = some (.int .i64 (logLo i))
  his : ∀ i, i < 6 → w.cell? ⟨gl, i * 2 + 1, none⟩ = some (.int .i64 (logHi i))
theorem Gv.ext {gp gl : Nat} {w w' : World} (h : Gv gp gl w) (x : Ext w w') : Gv gp gl w' :=
  ⟨fun i hi => x.cell (h.primes i hi), fun i hi => x.cell (h.los i hi), fun i hi => x.cell (h.his i hi)⟩
theorem Gv.below {gp gl B : Nat} {w w' : World} (h : Gv gp gl w) (x : Below B w w') (h1 : gp < B) (h2 : gl < B) : Gv gp gl w' :=
  ⟨fun i hi => Below.cellc x h1 (h.primes i hi), fun i hi => Below.cellc x h2 (h.los i hi), fun i hi => Below.cellc x h2 (h.his i hi)⟩
theorem Gv.gl {gp gl : Nat} {w : World} (h : Gv gp gl w) : Gl gl w := ⟨h.los, h.his⟩
instance {gp gl : Nat} {w : World} : CoeOut (Gv gp gl w) (Gl gl w) := ⟨Gv.gl⟩
def logCells : List Value := [.int .i64 1000000000, .int .i64 1000000000, .int .i64 1584962500, .int .i64 1584962501, .int .i64 2321928094, .int .i64 2321928095, .int .i64 2807354922, .int .i64 2807354923, .int .i64 3459431618, .int .i64 3459431619, .int .i64 3700439718, .int .i64 3700439719]
theorem Gv.logRange {gp gl : Nat} {w : World} (h : Gv gp gl w) : w.rangeAt gl 0 logCells := fun j v hv => by
  have hj : j < 12 := (List.getElem?_eq_some_iff.1 hv).1
  rw [Nat.zero_add]
  have : j = 0 ∨ j = 1 ∨ j = 2 ∨ j = 3 ∨ j = 4 ∨ j = 5 ∨ j = 6 ∨ j = 7 ∨ j = 8 ∨ j = 9 ∨ j = 10 ∨ j = 11 := by omega
  rcases this with rfl | rfl | rfl | rfl | rfl | rfl | rfl | rfl | rfl | rfl | rfl | rfl <;>
    (cases hv; first | exact h.los 0 (by omega) | exact h.his 0 (by omega) | exact h.los 1 (by omega) | exact h.his 1 (by omega) | exact h.los 2 (by omega) | exact h.his 2 (by omega) | exact h.los 3 (by omega) | exact h.his 3 (by omega) | exact h.los 4 (by omega) | exact h.his 4 (by omega) | exact h.los 5 (by omega) | exact h.his 5 (by omega))
theorem Gl.logRange {gl : Nat} {w : World} (h : Gl gl w) : w.rangeAt gl 0 logCells := fun j v hv => by
  have hj : j < 12 := (List.getElem?_eq_some_iff.1 hv).1
  rw [Nat.zero_add]
  have : j = 0 ∨ j = 1 ∨ j = 2 ∨ j = 3 ∨ j = 4 ∨ j = 5 ∨ j = 6 ∨ j = 7 ∨ j = 8 ∨ j = 9 ∨ j = 10 ∨ j = 11 := by omega
  rcases this with rfl | rfl | rfl | rfl | rfl | rfl | rfl | rfl | rfl | rfl | rfl | rfl <;>
    (cases hv; first | exact h.los 0 (by omega) | exact h.his 0 (by omega) | exact h.los 1 (by omega) | exact h.his 1 (by omega) | exact h.los 2 (by omega) | exact h.his 2 (by omega) | exact h.los 3 (by omega) | exact h.his 3 (by omega) | exact h.los 4 (by omega) | exact h.his 4 (by omega) | exact h.los 5 (by omega) | exact h.his 5 (by omega))

/-- An element of the logarithms' table. -/
theorem run_index_logs {P : Program} {t e : TypeId} {fs : Array Field} (h : P.underlying t = some (.array 6 e)) (he : P.underlying e = some (.struct fs)) (hs : (P.info? e).map (·.size) = some 2) {k : Nat} (hk : k < 6) (w : World) :
    (Instr.index t (.agg logCells.toArray) (.int .i64 (k : Int))).run P w = .ok (.agg #[.int .i64 (logLo k), .int .i64 (logHi k)]) w := by
  obtain ⟨i, hi, hz⟩ := Option.map_eq_some_iff.1 hs
  rcases lt6 hk with rfl | rfl | rfl | rfl | rfl | rfl <;>
    simp [Instr.index, run_underlying h, run_underlying he, asIntOf, part, isAgg, sizeOf, typeInfo, hi, hz, logCells, logLo, logHi]
end Go.Sx.Sz

/-
  Owned rows: a store into another block; the block's type.
-/
set_option linter.unusedVariables false
namespace Go.Sx
open Go.RowKit
variable {α : Type} {w : World} {B : Nat} {e : TypeId} {sz : Nat} {enc : α → List Value} {v : Value} {xs : List α}
theorem OwnR.stay (h : OwnR w B e sz enc v xs) {g j : Nat} (hg : v.ownBlock ≠ some g) (u : Value) : OwnR (w.setCell ⟨g, j, none⟩ u) B e sz enc v xs := by
  obtain ⟨h1, h2⟩ := h
  refine ⟨h1, h2.imp id fun ⟨k, cap, cur, a, b, c, d⟩ => ⟨k, cap, cur, a, b, ?_, d⟩⟩
  exact Sz.block_ne c _ _ (fun e => hg (by rw [a, e]; rfl))
theorem OwnR.kind (h : OwnR w B e sz enc v xs) {g : Nat} (hg : v.ownBlock = some g) : ∃ cs, w.heap[g]? = some (.cells cs e) := by
  obtain ⟨h1, ⟨rfl, h0⟩ | ⟨k, cap, cur, rfl, b, c, d⟩⟩ := h
  · cases hg
  · cases hg; exact ⟨cur, c⟩
theorem OwnR.appd {w' : World} {u u' : Value} (h : OwnR w B e sz enc v xs) (a : Appd w w' u u') (hne : ∀ g, v.ownBlock = some g → u.ownBlock ≠ some g) : OwnR w' B e sz enc v xs := by
  obtain ⟨h1, h2⟩ := h
  refine ⟨h1, h2.imp id fun ⟨k, cap, cur, e1, b, c, d⟩ => ⟨k, cap, cur, e1, b, ?_, d⟩⟩
  rw [a.kept k (Array.getElem?_eq_some_iff.1 c).1 (fun e => hne k (by rw [e1]; rfl) e.symm)]; exact c
theorem Appd.block {w w' : World} {u u' : Value} (a : Appd w w' u u') {k : Nat} {o : Obj} (h : w.heap[k]? = some o) (hne : u.ownBlock ≠ some k) : w'.heap[k]? = some o := by
  rw [a.kept k (Array.getElem?_eq_some_iff.1 h).1 (fun e => hne e.symm)]; exact h
theorem Sl.front {a? : Option Addr} {n cap : Nat} (S : Sl w sz enc (.slice a? n cap) xs) (m : Nat) (hm : m ≤ xs.length) : Sl w sz enc (.slice a? m cap) (xs.take m) := by
  obtain ⟨a', c', e, h1, h2, h3, h4⟩ := S
  injection e with e1 e2 e3
  subst e1 e3
  have hl : (xs.take m).length = m := by rw [List.length_take]; omega
  refine ⟨a?, cap, by rw [hl], by omega, h2, by omega, fun i hi => ?_⟩
  obtain ⟨a, ha, hc⟩ := h4 i (by omega)
  exact ⟨a, ha, fun j hj => by rw [hc j hj, List.getElem_take]⟩
end Go.Sx

/-
  What stays where rows of one type, from some block on, may be stored into: for law Dz.
-/
set_option linter.unusedVariables false
namespace Go.Sx
open Go.RowKit Go.Sx.Sz

/-- All stays but rows of type e from block B on, which keep their size. -/
structure Zr (e : TypeId) (B : Nat) (w w' : World) : Prop where
  os : w'.os = w.os
  tape : w'.tape = w.tape
  output : w'.output = w.output
  size : w.heap.size ≤ w'.heap.size
  kept : ∀ b, b < w.heap.size → w'.heap[b]? = w.heap[b]? ∨ (B ≤ b ∧ ∃ cs cs', w.heap[b]? = some (.cells cs e (0, 0)) ∧ w'.heap[b]? = some (.cells cs' e (0, 0)) ∧ cs'.size = cs.size)

theorem Ext.zr {w w' : World} (h : Ext w w') (e : TypeId) (B : Nat) : Zr e B w w' := ⟨h.os, h.tape, h.output, h.size, fun b hb => .inl (h.block b hb)⟩
theorem sub_zr (e : TypeId) (B : Nat) : ∀ w w', Ext w w' → Zr e B w w' := fun _ _ h => h.zr e B
theorem Zr.ext {e : TypeId} {B : Nat} {W w w' : World} (h : Ext W w) (k : Zr e B w w') (hB : W.heap.size ≤ B) : Ext W w' :=
  ⟨k.os.trans h.os, k.tape.trans h.tape, k.output.trans h.output, Nat.le_trans h.size k.size, fun b hb => by
    rcases k.kept b (Nat.lt_of_lt_of_le hb h.size) with e1 | ⟨h1, _⟩
    · exact e1.trans (h.block b hb)
    · omega⟩
theorem stable_zr {e : TypeId} {W : World} : Stable (Zr e W.heap.size) (Ext W) := fun _ _ h k => Zr.ext h k (Nat.le_refl _)
theorem Zr.block {e : TypeId} {B : Nat} {w w' : World} (k : Zr e B w w') {b : Nat} {o : Obj} (h : w.heap[b]? = some o) (ho : ∀ cs z, o ≠ .cells cs e z) : w'.heap[b]? = some o := by
  rcases k.kept b (block_lt h) with e1 | ⟨_, cs, cs', h1, _⟩
  · exact e1.trans h
  · rw [h] at h1; cases h1; exact absurd rfl (ho _ _)
/-- A row of type e of n cells, from block B on. -/
def ZRow (e : TypeId) (B n : Nat) (v : Value) (w : World) : Prop := ∃ g : Nat, v = .pointer (some ⟨g, 0, none⟩) ∧ B ≤ g ∧ ∃ cs : Array Value, w.heap[g]? = some (.cells cs e (0, 0)) ∧ cs.size = n
theorem ZRow.zr {e : TypeId} {B n : Nat} {v : Value} {w w' : World} (h : ZRow e B n v w) (k : Zr e B w w') : ZRow e B n v w' := by
  obtain ⟨g, e1, hg, cs, h1, h2⟩ := h
  refine ⟨g, e1, hg, ?_⟩
  rcases k.kept g (block_lt h1) with e2 | ⟨_, cs0, cs', h3, h4, h5⟩
  · exact ⟨cs, e2.trans h1, h2⟩
  · rw [h1] at h3; cases h3; exact ⟨cs', h4, h5.trans h2⟩
theorem ZRow.new (w : World) {e : TypeId} {B : Nat} (hB : B ≤ w.heap.size) (cs : Array Value) : ZRow e B cs.size (.pointer (some ⟨w.heap.size, 0, none⟩)) (w.alloc (.cells cs e)) := ⟨_, rfl, hB, cs, World.alloc_heap_new w _, rfl⟩
/-- .. with its content. -/
def ZAt (e : TypeId) (cs : Array Value) (v : Value) (w : World) : Prop := ∃ g : Nat, v = .pointer (some ⟨g, 0, none⟩) ∧ w.heap[g]? = some (.cells cs e (0, 0))
theorem ZAt.ext {e : TypeId} {cs : Array Value} {v : Value} {w w' : World} (h : ZAt e cs v w) (k : Ext w w') : ZAt e cs v w' := by
  obtain ⟨g, e1, h1⟩ := h; exact ⟨g, e1, block_ext k h1⟩

theorem zr_setRow {w : World} {g B : Nat} {e : TypeId} {old cs : Array Value} (h : w.heap[g]? = some (.cells old e (0, 0))) (hB : B ≤ g) (hs : cs.size = old.size) : Zr e B w (w.setRow g cs) :=
  ⟨rfl, rfl, rfl, by simp, fun b hb => by
    by_cases hbg : b = g
    · subst hbg; exact .inr ⟨hB, old, cs, h, setRow_at h cs, hs⟩
    · exact .inl (setRow_other w g b cs hbg)⟩

/-- The store of a whole struct into such a row, in a region that draws. -/
theorem opR_store_row {P : Program} {o : Oper} {a : Act} {w : World} {K : Value → World → Prop} (ty : TypeId) (x y : Operand) (ho : o.op = .store ty x y)
    (g : Nat) (cells : Array Value) (hx : a.eval x = .pointer (some ⟨g, 0, none⟩)) (hy : a.eval y = .agg cells)
    (t : TypeId) (old : Array Value) (hg : w.heap[g]? = some (.cells old t (0, 0))) (hi : (P.info? ty).map (·.size) = some cells.size)
    (hold : old.size = cells.size) (h1 : cells.all (·.oneCell') = true) (h : K undef (w.setRow g cells)) : opR P o a w K := by
  unfold opR execOp
  simp only [ho, hx, hy, Instr.storeAt, Instr.sureAddr, Sem.run_bind, Sem.run_pure, Result.andThen_ok, run_storeVar_row w g t ty old cells hg hi hold h1]
  exact h

/-- Inside law Dz: the store into a row that the region makes (operation k). -/
theorem opR_zstore {P : Program} {o : Oper} {a : Act} {w : World} {e : TypeId} {B n : Nat} {p : Value} (ty : TypeId) (x y : Operand) (ho : o.op = .store ty x y) (cells : Array Value) (hx : a.eval x = p) (hy : a.eval y = .agg cells) (hp : ZRow e B n p w)
    (hi : (P.info? ty).map (·.size) = some cells.size) (hn : n = cells.size) (h1 : cells.all (·.oneCell') = true) : opR P o a w (fun u w' => Zr e B w w' ∧ (u = undef) ∧ ZAt e cells p w') := by
  obtain ⟨g, rfl, hB, cs, h2, h3⟩ := hp
  exact opR_store_row ty x y ho g cells hx hy e cs h2 hi (h3.trans hn) h1 ⟨zr_setRow h2 hB (by omega), rfl, g, rfl, setRow_at h2 _⟩
end Go.Sx

/-
  A call of a function value in a region that draws its order.
-/
namespace Go.Sx
variable {P : Program}
theorem opR_callv {o : Oper} {a : Act} {w : World} {K : Value → World → Prop} {f : FuncId} {g : Operand} {xs : Array Operand} {ts : Array TypeId} {cap args : Array Value} (ho : o.op = .call { callee := .value g, args := xs, argTypes := ts })
    (hg : a.eval g = .func (.func f) #[] cap) (he : ∀ args w, (callFunc f args).run P w = .ok (.enter f args) w) (hx : xs.map a.eval = args) (h : Calls P f (args ++ cap) w (fun e w'' => ∃ v, e = .returned v ∧ K v w'')) : opR P o a w K := by
  subst hx
  have hr : (execOp a.eval o).run P w = .ok (.enter f (xs.map a.eval ++ cap)) w := by
    unfold execOp
    simp only [ho, resolve, hg, Deferred.ofValue, Sem.run_bind, Sem.run_pure, Result.andThen_ok, invoke]
    first | exact he _ _ | (simp only [Array.empty_append]; exact he _ _)
  unfold opR
  rw [hr]
  exact h
end Go.Sx

/-
  The shell of a law: nothing that was there has turned, so each argument reads as it read; arguments opened into plain lists.
-/
namespace Go.Sx
open Go.ChangeShapes Go.WideShapes Go.ChangeAt Go.RowKit

section
variable {H : Type} {enc : TypeId × Value → H} {P : Program}

theorem trodAll_ext (hl : laidOutB P = true) {W W' : World} (x : Ext W W') : ∀ {ts : List TypeId} {vs : List Value} {ds : List (DataW H)} {ps : List MemPlace},
    ts.all (fun t => P.readableRec t && decide (t < P.types.size)) = true → DataW.TrodAll enc P W 0 (fun _ => true) true ts vs ds ps → (∀ p ∈ ps, p.block < W.heap.size) →
    DataW.TrodAll enc P W' 0 (fun b => decide (b < W.heap.size)) true ts vs ds ps
  | [], vs, ds, ps, _, h, _ => by
    obtain ⟨rfl, rfl, rfl⟩ := trodAll_nil h
    exact trodAll_mk0
  | t :: ts, vs, ds, ps, hr, h, hlt => by
    obtain ⟨v, vs', d, ds', p, q, rfl, rfl, rfl, h0, h1⟩ := trodAll_cons h
    simp only [List.all_cons, Bool.and_eq_true, decide_eq_true_eq] at hr
    exact trodAll_cons_mk (Below.trod hl hr.1.1 hr.1.2 h0 x (fun y hy => hlt y (by simp [hy]))) (trodAll_ext hl x (by simpa using hr.2) h1 (fun y hy => hlt y (by simp [hy])))

theorem law_post {f : Func} {s : ChangeSpec} {W W' : World} {args : Array Value} {ds gs : List (DataW H)} {before : List MemPlace} {tb : TypeId} (hl : laidOutB P = true)
    (hr : f.params.toList.all (fun t => P.readableRec t && decide (t < P.types.size)) = true) (hres : f.resultTypes = #[tb]) (ht : P.underlying tb = some .bool) (hv : s.vars = [])
    (hW : DataW.Whole enc P f.params.toList s.vars false W args.toList ds gs before) (hs : s.fn H (ds ++ gs) = { results := [.lit (.bool true)], args := ds }) (x : Ext W W') :
    s.post enc P f false true false false W args (.bool true) W' := by
  have hlt := hW.lt
  have hW0 := hW
  obtain ⟨p, q, hA, hV, rfl, hz, hn⟩ := hW
  rw [hv] at hV
  obtain ⟨rfl, rfl⟩ := trodVars_none hV
  refine ⟨ds, [], _, [], p, [], hW0, ?_, ?_, ?_, World.keptBut_mono (fun _ h => h) (Below.frame x _), fun h => by cases h⟩
  · rw [hs, hres]
    exact trodAll_cons_mk (shut_bool ht _) trodAll_mk0
  · rw [hs]
    exact trodAll_ext hl x hr hA (fun y hy => hlt y (by simp [hy]))
  · rw [hv, hs]
    rfl

/-- How an element's cells read: a plain thing. -/
def Elem {α : Type} (enc' : TypeId × Value → H) (P : Program) (w : World) (e : TypeId) (sz : Nat) (enc : α → List Value) (ok : α → DataW H → Prop) : Prop :=
  ∀ n cs x, DataW.trod enc' P w 0 (fun _ => true) true n e cs = some x → (x.1.weights P e).all (· ≤ reachBytes) = true → ∃ a, cs = enc a ∧ (enc a).length = sz ∧ ok a x.1

/-- A slice's elements, as data. -/
def delems : DataW H → List (DataW H)
  | .slice es _ => es
  | _ => []

theorem all_append {l k : List Nat} (h : (l ++ k).all (· ≤ reachBytes) = true) : l.all (· ≤ reachBytes) = true ∧ k.all (· ≤ reachBytes) = true := by
  simpa using h

theorem weightsAll_mem {e : TypeId} {d : DataW H} {l : List (DataW H)} (hd : d ∈ l) (h : (DataW.weightsAll P e l).all (· ≤ reachBytes) = true) : (d.weights P e).all (· ≤ reachBytes) = true := by
  induction l with
  | nil => cases hd
  | cons x l ih =>
    unfold DataW.weightsAll at h
    obtain ⟨h1, h2⟩ := all_append h
    rcases List.mem_cons.1 hd with rfl | hd
    · exact h1
    · exact ih hd h2

theorem sl_of_trod {α : Type} [Inhabited α] {w : World} {t e : TypeId} {sz : Nat} {enc' : α → List Value} {ok : α → DataW H → Prop} {fuel : Nat} {cs : List Value} {x : DataW H × List MemPlace} (ht : P.underlying t = some (.slice e)) (hc : P.cellsOf e = sz) (hb : 0 < P.bytesOf e)
    (hE : Elem enc P w e sz enc' ok) (h : DataW.trod enc P w 0 (fun _ => true) true fuel t cs = some x) (hw : (x.1.weights P t).all (· ≤ reachBytes) = true) :
    ∃ v xs, cs = [v] ∧ Sl w sz enc' v xs ∧ xs.length = (delems x.1).length ∧ ∀ i (h : i < xs.length) (h' : i < (delems x.1).length), ok xs[i] (delems x.1)[i] := by
  rcases Deep.open_slice ht h with ⟨rfl, rfl⟩ | ⟨a, len, cap, m, n, D, Pl, rfl, _, hl, hm, hmm, rfl, hx⟩
  · exact ⟨_, [], rfl, Sl.nil _ _ _, rfl, fun i hi => absurd hi (by simp)⟩
  · simp only [if_true] at hmm
    subst hmm
    unfold DataW.weights at hw
    rw [ht] at hw
    simp only [List.all_cons, Bool.and_eq_true, decide_eq_true_eq, List.length_map, List.length_range] at hw
    obtain ⟨hw0, hw1⟩ := hw
    have hw2 := (all_append hw1).1
    have hlen : len ≤ reachBytes := by
      have : (len + (m - len)) * 1 ≤ (len + (m - len)) * P.bytesOf e := Nat.mul_le_mul_left _ hb
      omega
    obtain ⟨f, hf⟩ := Deep.choose_lt (n := len) (α := α) (p := fun i y => w.cells? 0 (a.add (i * sz)) sz = some (enc' y) ∧ (enc' y).length = sz ∧ ok y (D i)) (fun i hi => by
      obtain ⟨cs', h1, h2⟩ := hx i (by omega)
      obtain ⟨y, rfl, h3, h4⟩ := hE _ _ _ h2 (weightsAll_mem (List.mem_map.2 ⟨i, List.mem_range.2 hi, rfl⟩) hw2)
      rw [hc] at h1
      exact ⟨y, h1, h3, h4⟩)
    refine ⟨_, (List.range len).map f, rfl, ⟨some a, m, by simp, by simpa using hl, hm, by simpa [reachBytes] using hlen, ?_⟩, by simp [delems], ?_⟩
    · intro i hi
      simp at hi
      refine ⟨a, rfl, fun j hj => ?_⟩
      obtain ⟨h1, h2, _⟩ := hf i hi
      obtain ⟨_, _, h3⟩ := World.cells?_some h1
      have h4 := h3 j hj
      rw [Deep.add_add] at h4
      rw [h4]
      simp only [List.getElem_map, List.getElem_range]
      rw [List.getElem?_eq_getElem (by omega)]
      simp [List.getD, List.getElem?_eq_getElem (show j < (enc' (f i)).length by omega)]
    · intro i hi hi'
      simp at hi
      simpa [delems] using (hf i hi).2.2

theorem open_sl {α : Type} [Inhabited α] {w : World} {r : Reach} {b0 : Nat} {t e : TypeId} {sz : Nat} {enc' : α → List Value} {ok : α → DataW H → Prop} {v : Value} {d : DataW H} {ps : List MemPlace} (ht : P.underlying t = some (.slice e)) (hc : P.cellsOf e = sz) (hb : 0 < P.bytesOf e)
    (hE : Elem enc P w e sz enc' ok) (hval : Value.okWide P w r b0 t v) (h : DataW.Trod enc P w 0 (fun _ => true) true t v d ps) (hw : (d.weights P t).all (· ≤ reachBytes) = true) :
    ∃ xs, Sl w sz enc' v xs ∧ xs.length = (delems d).length ∧ ∀ i (h : i < xs.length) (h' : i < (delems d).length), ok xs[i] (delems d)[i] := by
  obtain ⟨a, len, cap, rfl⟩ := okWide_slice ht hval
  obtain ⟨fuel, hf⟩ := h
  obtain ⟨v, xs, hcs, hS, hl, hok⟩ := sl_of_trod ht hc hb hE hf hw
  simp [Value.cells] at hcs
  subst hcs
  exact ⟨xs, hS, hl, hok⟩

theorem open_sl' {α : Type} [Inhabited α] {w : World} {r : Reach} {b0 : Nat} {t e : TypeId} {sz : Nat} {enc' : α → List Value} {ok : α → Prop} {v : Value} {d : DataW H} {ps : List MemPlace} (ht : P.underlying t = some (.slice e)) (hc : P.cellsOf e = sz) (hb : 0 < P.bytesOf e)
    (hE : Elem enc P w e sz enc' (fun a _ => ok a)) (hval : Value.okWide P w r b0 t v) (h : DataW.Trod enc P w 0 (fun _ => true) true t v d ps) (hw : (d.weights P t).all (· ≤ reachBytes) = true) :
    ∃ xs, Sl w sz enc' v xs ∧ xs.length = (delems d).length ∧ ∀ x ∈ xs, ok x := by
  obtain ⟨xs, hS, hl, hok⟩ := open_sl ht hc hb hE hval h hw
  refine ⟨xs, hS, hl, fun x hx => ?_⟩
  obtain ⟨i, hi, rfl⟩ := List.getElem_of_mem hx
  exact hok i hi (by omega)

/-- What fits an integer's kind. -/
def Fits (k : IntKind) (n : Int) : Prop := k.min ≤ n ∧ n ≤ k.max
theorem elem_int {w : World} {e : TypeId} {k : IntKind} (he : P.underlying e = some (.int k)) : Elem enc P w e 1 (fun n => [.int k n]) (fun n _ => Fits k n) := by
  intro n cs x h _
  obtain ⟨m, rfl, rfl, hm⟩ := DataW.trod_int he h
  simp only [Lit.wf, Bool.and_eq_true, decide_eq_true_eq] at hm
  exact ⟨m, rfl, rfl, hm⟩
theorem elem_bool {w : World} {e : TypeId} (he : P.underlying e = some .bool) : Elem enc P w e 1 (fun b => [.bool b]) (fun _ _ => True) := by
  intro n cs x h _
  obtain ⟨m, rfl, rfl⟩ := DataW.trod_bool he h
  exact ⟨m, rfl, rfl, trivial⟩
theorem wf_fits {k : IntKind} {n : Int} (h : (Lit.int k n).wf = true) : Fits k n := by
  unfold Fits
  simpa only [Lit.wf, Bool.and_eq_true, decide_eq_true_eq] using h

/-- One argument, as it came. -/
def Arg (enc : TypeId × Value → H) (P : Program) (W : World) (base : Nat) (t : TypeId) (v : Value) (d : DataW H) : Prop :=
  Value.okWide P W .any base t v ∧ (∃ p, DataW.Trod enc P W 0 (fun _ => true) true t v d p) ∧ (d.weights P t).all (· ≤ reachBytes) = true

def Args (enc : TypeId × Value → H) (P : Program) (W : World) (base : Nat) : List TypeId → List Value → List (DataW H) → Prop
  | [], [], [] => True
  | t :: ts, v :: vs, d :: ds => Arg enc P W base t v d ∧ Args enc P W base ts vs ds
  | _, _, _ => False

theorem Args.cons {W : World} {base : Nat} {t : TypeId} {ts : List TypeId} {vs : List Value} {ds : List (DataW H)} (h : Args enc P W base (t :: ts) vs ds) :
    ∃ v vs' d ds', vs = v :: vs' ∧ ds = d :: ds' ∧ Arg enc P W base t v d ∧ Args enc P W base ts vs' ds' := by
  cases vs <;> cases ds <;> simp only [Args] at h
  exact ⟨_, _, _, _, rfl, rfl, h.1, h.2⟩
theorem Args.nil {W : World} {base : Nat} {vs : List Value} {ds : List (DataW H)} (h : Args enc P W base [] vs ds) : vs = [] ∧ ds = [] := by
  cases vs <;> cases ds <;> simp only [Args] at h
  exact ⟨rfl, rfl⟩

theorem Arg.int {W : World} {base : Nat} {t : TypeId} {k : IntKind} {v : Value} {d : DataW H} (ht : P.underlying t = some (.int k)) (h : Arg enc P W base t v d) : ∃ n, v = .int k n ∧ Fits k n := by
  obtain ⟨h0, ⟨p, h1⟩, _⟩ := h
  obtain ⟨n, rfl, _, _, hw⟩ := open_int ht h0 h1
  exact ⟨n, rfl, wf_fits hw⟩
theorem Arg.bool {W : World} {base : Nat} {t : TypeId} {v : Value} {d : DataW H} (ht : P.underlying t = some .bool) (h : Arg enc P W base t v d) : ∃ b, v = .bool b := by
  obtain ⟨h0, ⟨p, h1⟩, _⟩ := h
  obtain ⟨b, rfl, _, _⟩ := open_bool ht h0 h1
  exact ⟨b, rfl⟩
theorem Arg.sl {α : Type} [Inhabited α] {w : World} {base : Nat} {t e : TypeId} {sz : Nat} {enc' : α → List Value} {ok : α → Prop} {v : Value} {d : DataW H} (ht : P.underlying t = some (.slice e)) (hc : P.cellsOf e = sz) (hb : 0 < P.bytesOf e)
    (hE : Elem enc P w e sz enc' (fun a _ => ok a)) (h : Arg enc P w base t v d) : ∃ xs, Sl w sz enc' v xs ∧ xs.length = (delems d).length ∧ ∀ x ∈ xs, ok x := by
  obtain ⟨h0, ⟨p, h1⟩, h2⟩ := h
  exact open_sl' ht hc hb hE h0 h1 h2
theorem args_of {W : World} {base : Nat} : ∀ {ts : List TypeId} {vs : List Value} {ds : List (DataW H)} {ps : List MemPlace}, (∀ (j : Nat) t v, ts[j]? = some t → vs[j]? = some v → Value.okWide P W .any base t v) →
    DataW.TrodAll enc P W 0 (fun _ => true) true ts vs ds ps → (DataW.weightsEach P ts ds).all (· ≤ reachBytes) = true → Args enc P W base ts vs ds
  | [], vs, ds, ps, _, h, _ => by
    obtain ⟨rfl, rfl, rfl⟩ := trodAll_nil h
    trivial
  | t :: ts, vs, ds, ps, hv, h, hw => by
    obtain ⟨v, vs', d, ds', p, q, rfl, rfl, rfl, h0, h1⟩ := trodAll_cons h
    unfold DataW.weightsEach at hw
    obtain ⟨w0, w1⟩ := all_append hw
    exact ⟨⟨hv 0 t v rfl rfl, ⟨p, h0⟩, w0⟩, args_of (fun j t' v' a b => hv (j + 1) t' v' (by simpa using a) (by simpa using b)) h1 w1⟩

theorem args_len {W : World} {base : Nat} : ∀ {ts : List TypeId} {vs : List Value} {ds : List (DataW H)}, Args enc P W base ts vs ds → ds.length = ts.length
  | [], vs, ds, h => by obtain ⟨_, rfl⟩ := h.nil; rfl
  | t :: ts, vs, ds, h => by
    obtain ⟨v, vs', d, ds', rfl, rfl, _, h1⟩ := h.cons
    simp [args_len h1]
end

def onlyBools (P : Program) (f : Func) : Bool := match f.resultTypes.toList with | [t] => (match P.underlying t with | some .bool => true | _ => false) | _ => false
theorem onlyBools_some {P : Program} {f : Func} (h : onlyBools P f = true) : ∃ t, f.resultTypes = #[t] ∧ P.underlying t = some .bool := by
  unfold onlyBools at h
  split at h
  · rename_i t ht
    refine ⟨t, Array.toList_inj.1 ht, ?_⟩
    split at h
    · assumption
    · cases h
  · cases h

end Go.Sx

/-
  The second form's bound: no slice among the arguments is longer than the bulk.
-/
namespace Go.Proofs.YtgfaiihekibcbaaGreatDoor
open Go.Sx

end Go.Proofs.YtgfaiihekibcbaaGreatDoor

/-
  The shell of a law whose row lists package variables ('laid'): first and second form alike.
-/
namespace Go.Sx
open Go.ChangeShapes Go.WideShapes Go.ChangeAt Go.RowKit

theorem law_row {C : Checked} {os : Os} {f : FuncId} {fn : Func} {s : OpenSpec} {F : Stop.Interp} {H : Type} {enc : TypeId × Value → H} {laid : List (String × DataW Unit)} (own : ownKnob C.prog.godebug = none) (started : os.Started) (noInit : C.prog.inits.idxOf? f = none) (hfn : C.prog.funcs[f]? = some fn)
    (witness : ∃ (w : World) (tape : Tape) (i : Input), w.os = os ∧ (w.forCall tape i).Shaped C.prog ∧ i.vars = [] ∧ Input.okWide C.prog (w.forCall tape i) .any w.heap.size f i ∧
      s.preRow enc C.prog fn [] false laid (w.forCall tape i).memory i.args ∧ ({} : Assume).holds C.prog (lone (Frame.enter C.prog f i.args .normal) [] (w.forCall tape i)))
    (hl : laidOutB C.prog = true) (hr : fn.params.toList.all (fun t => C.prog.readableRec t && decide (t < C.prog.types.size)) = true) (hres : onlyBools C.prog fn = true) (hv : s.vars = [])
    (hs : ∀ ds : List (DataW H), ds.length = fn.params.toList.length → (s.at F).fn H ds = { results := [.lit (.bool true)], args := ds })
    (walk : ∀ (W : World) (base : Nat) (vs : List Value) (ds : List (DataW H)), (∀ k, s.cond = some k → k H ds = true) → laidMetH C.prog laid W → Args enc C.prog W base fn.params.toList vs ds → Calls C.prog f vs.toArray W fun e W' => e = .returned (.bool true) ∧ Ext W W') :
    ReturnsInHanded {} C os f .any (s.preRow enc C.prog fn [] false laid) ((s.at F).post enc C.prog fn false true false false) := by
  refine returnsInHanded_of_row own started noInit hfn witness ?_
  intro W base args ds gs before hval hW _ hkk hw hL _ _
  obtain ⟨tb, hb1, hb2⟩ := onlyBools_some hres
  have hW0 := hW
  obtain ⟨p, q, hA, hV, rfl, hz, hn⟩ := hW
  rw [hv] at hV
  obtain ⟨rfl, rfl⟩ := trodVars_none hV
  have hvt : s.bare.plain.varTypes C.prog = [] := by
    unfold DataSpec.varTypes
    have : s.bare.plain.vars = [] := hv
    rw [this]; rfl
  rw [hvt, List.append_nil, List.append_nil] at hw
  rw [List.append_nil] at hkk
  have hArgs : Args enc C.prog W base fn.params.toList args.toList ds := args_of (fun j t v a b => hval j t v (by simpa using a) (by simpa using b)) hA hw
  have h := walk W base args.toList ds hkk hL hArgs
  rw [Array.toArray_toList] at h
  refine h.mono fun e W' ⟨he, x⟩ => ?_
  exact ⟨_, he, law_post hl hr hb1 hb2 hv hW0 (by rw [List.append_nil]; exact hs ds (args_len hArgs)) x⟩
end Go.Sx

/-
  What the walks of a seat share: the program draws its orders.
-/
namespace Go.Proofs.YtgfaiihekibcbaaGreatDoor
open Go.RowKit Go.Sx
theorem wide : Tryz.prog.follows .mixedOrders = true := by kernel_rfl
end Go.Proofs.YtgfaiihekibcbaaGreatDoor

/-
  Open arguments: structs and arrays of any nesting into plain things.
-/
set_option linter.unusedVariables false
namespace Go.Sx
open Go.ChangeShapes Go.WideShapes Go.ChangeAt Go.RowKit Go.Sx.Sz

section
variable {H : Type} {enc' : TypeId × Value → H} {P : Program} {w : World}

/-- The cells of type e read as a plain thing. -/
def El {α : Type} (enc' : TypeId × Value → H) (P : Program) (w : World) (e : TypeId) (sz : Nat) (enc : α → List Value) (ok : α → Prop) : Prop := Elem enc' P w e sz enc (fun a _ => ok a)

theorem El.map {α β : Type} {e : TypeId} {sz : Nat} {enc : α → List Value} {ok : α → Prop} (h : El enc' P w e sz enc ok) (f : α → β) {encB : β → List Value} {okB : β → Prop} (he : ∀ a, encB (f a) = enc a) (ho : ∀ a, ok a → okB (f a)) : El enc' P w e sz encB okB := by
  intro n cs x hx hw
  obtain ⟨a, h1, h2, h3⟩ := h n cs x hx hw
  exact ⟨f a, by rw [he]; exact h1, by rw [he]; exact h2, ho a h3⟩
theorem El.int {e : TypeId} {k : IntKind} (he : P.underlying e = some (.int k)) : El enc' P w e 1 (fun n => [.int k n]) (Fits k) := elem_int he
theorem El.bool {e : TypeId} (he : P.underlying e = some .bool) : El enc' P w e 1 (fun b => [.bool b]) (fun _ => True) := elem_bool he

/-- A slice: its value and what it reads as. -/
theorem El.slice {α : Type} [Inhabited α] {t e : TypeId} {sz : Nat} {enc : α → List Value} {ok : α → Prop} (ht : P.underlying t = some (.slice e)) (hc : P.cellsOf e = sz) (hb : 0 < P.bytesOf e) (hE : El enc' P w e sz enc ok) :
    El enc' P w t 1 (fun a : Value × List α => [a.1]) (fun a => Sl w sz enc a.1 a.2 ∧ (∀ x ∈ a.2, ok x) ∧ a.2.length * P.bytesOf e ≤ reachBytes) := by
  intro n cs x h hw
  obtain ⟨v, xs, hcs, hS, hl, hok⟩ := sl_of_trod ht hc hb hE h hw
  refine ⟨(v, xs), hcs, rfl, hS, fun y hy => ?_, ?_⟩
  · obtain ⟨i, hi, rfl⟩ := List.getElem_of_mem hy
    exact hok i hi (by rw [← hl]; exact hi)
  · show xs.length * _ ≤ _
    rw [hl]
    obtain ⟨d, p⟩ := x
    cases d with
    | slice es sp =>
      unfold DataW.weights at hw
      rw [ht] at hw
      simp only [List.all_cons, Bool.and_eq_true, decide_eq_true_eq] at hw
      have := Nat.mul_le_mul_right (P.bytesOf e) (Nat.le_add_right es.length sp.length)
      simp only [delems]
      omega
    | _ => simp [delems]

/-- The fields from an offset on. -/
def Fs {α : Type} (enc' : TypeId × Value → H) (P : Program) (w : World) (fs : List Field) (off sz : Nat) (enc : α → List Value) (ok : α → Prop) : Prop :=
  ∀ (n : Nat) (cs : List Value) (ys : List (DataW H × List MemPlace)), ys.length = fs.length → (∀ (i : Nat) (f : Field), fs[i]? = some f → DataW.trod enc' P w 0 (fun _ => true) true n f.type ((cs.drop f.offset).take (P.cellsOf f.type)) = ys[i]?) →
    cs.length = off + sz → (DataW.weightsEach P (fs.map (·.type)) (ys.map (·.1))).all (· ≤ reachBytes) = true → ∃ a, cs.drop off = enc a ∧ (enc a).length = sz ∧ ok a

theorem Fs.nil (off : Nat) : Fs enc' P w [] off 0 (fun _ : Unit => []) (fun _ => True) := by
  intro n cs ys _ _ hl _
  exact ⟨(), List.drop_eq_nil_of_le (by omega), rfl, trivial⟩
theorem Fs.cons {α β : Type} {f : Field} {fs : List Field} {off s0 sz : Nat} {enc0 : α → List Value} {ok0 : α → Prop} {enc : β → List Value} {ok : β → Prop} (h0 : El enc' P w f.type s0 enc0 ok0) (hs : P.cellsOf f.type = s0) (ho : f.offset = off)
    (h : Fs enc' P w fs (off + s0) sz enc ok) : Fs enc' P w (f :: fs) off (s0 + sz) (fun a : α × β => enc0 a.1 ++ enc a.2) (fun a => ok0 a.1 ∧ ok a.2) := by
  intro n cs ys hy hf hl hw
  cases ys with
  | nil => simp at hy
  | cons y ys =>
    simp only [List.map_cons] at hw
    unfold DataW.weightsEach at hw
    obtain ⟨w0, w1⟩ := all_append hw
    have f0 := hf 0 f rfl
    rw [ho, hs] at f0
    obtain ⟨a, a1, a2, a3⟩ := h0 n _ y f0 w0
    obtain ⟨b, b1, b2, b3⟩ := h n cs ys (by simpa using hy) (fun i g hg => hf (i + 1) g (by simpa using hg)) (by omega) w1
    refine ⟨(a, b), ?_, by simp only [List.length_append]; omega, a3, b3⟩
    show _ = enc0 a ++ enc b
    rw [← a1, ← b1, ← List.drop_drop, List.take_append_drop]

theorem El.struct {α : Type} {t : TypeId} {fs : Array Field} {sz : Nat} {enc : α → List Value} {ok : α → Prop} (ht : P.underlying t = some (.struct fs)) (hc : P.cellsOf t = sz) (h : Fs enc' P w fs.toList 0 sz enc ok) : El enc' P w t sz enc ok := by
  intro n cs x hx hw
  obtain ⟨ys, m, _, rfl, hl, hlen, hf⟩ := DataW.trod_struct ht hx
  unfold DataW.weights at hw
  simp only [ht] at hw
  obtain ⟨a, h1, h2, h3⟩ := h m cs ys (by simpa using hlen) (fun i f hi => hf i f (by simpa using hi)) (by omega) hw
  exact ⟨a, by simpa using h1, h2, h3⟩

theorem El.v6 {t e : TypeId} (ht : P.underlying t = some (.array 6 e)) (he : P.underlying e = some (.int .i64)) (hc : P.cellsOf t = 6) (hce : P.cellsOf e = 1) : El enc' P w t 6 V6.list (fun v => ∀ k, k < 6 → Fits .i64 (v.get k)) := by
  intro n cs x hx hw
  obtain ⟨ys, m, _, rfl, hl, hlen, hf⟩ := DataW.trod_array ht hx
  rw [hc] at hl
  rw [hce] at hf
  have g : ∀ i, i < 6 → ∃ z, cs[i]? = some (.int .i64 z) ∧ Fits .i64 z := fun i hi => by
    have h1 := hf i hi
    have hy : ys[i]? = some ys[i] := List.getElem?_eq_getElem (by omega)
    rw [hy] at h1
    obtain ⟨z, h2, _, h3⟩ := DataW.trod_int he h1
    refine ⟨z, ?_, wf_fits h3⟩
    have := congrArg (·[0]?) h2
    simpa [List.getElem?_drop, List.getElem?_take] using this
  obtain ⟨a, a1, a2⟩ := g 0 (by omega)
  obtain ⟨b, b1, b2⟩ := g 1 (by omega)
  obtain ⟨c, c1, c2⟩ := g 2 (by omega)
  obtain ⟨d, d1, d2⟩ := g 3 (by omega)
  obtain ⟨e, e1, e2⟩ := g 4 (by omega)
  obtain ⟨f, f1, f2⟩ := g 5 (by omega)
  refine ⟨⟨a, b, c, d, e, f⟩, ?_, rfl, fun k hk => by rcases lt6 hk with rfl | rfl | rfl | rfl | rfl | rfl <;> assumption⟩
  apply List.ext_getElem?
  intro i
  match i with
  | 0 => exact a1
  | 1 => exact b1
  | 2 => exact c1
  | 3 => exact d1
  | 4 => exact e1
  | 5 => exact f1
  | m + 6 => rw [List.getElem?_eq_none (by omega)]; rfl

/-- An argument that is a struct or an array. -/
theorem Arg.agg {α : Type} {base : Nat} {t : TypeId} {sz : Nat} {enc : α → List Value} {ok : α → Prop} {v : Value} {d : DataW H} (ht : ∃ cs, v = .agg cs) (hE : El enc' P w t sz enc ok) (h : Arg enc' P w base t v d) : ∃ a, v = .agg (enc a).toArray ∧ ok a := by
  obtain ⟨cs, rfl⟩ := ht
  obtain ⟨_, ⟨p, fuel, hd⟩, hw⟩ := h
  obtain ⟨a, h1, _, h3⟩ := hE fuel _ (d, p) hd hw
  refine ⟨a, ?_, h3⟩
  simp only [Value.cells] at h1
  rw [← h1]
theorem okWide_array {n : Nat} {e t : TypeId} {r : Reach} {b : Nat} {v : Value} (ht : P.underlying t = some (.array n e)) (h : Value.okWide P w r b t v) : ∃ cs, v = .agg cs := by
  simp only [Value.okWide, ht] at h
  obtain ⟨cs, h1, _⟩ := h
  exact ⟨cs, h1⟩
theorem Arg.array {α : Type} {base n : Nat} {t e : TypeId} {sz : Nat} {enc : α → List Value} {ok : α → Prop} {v : Value} {d : DataW H} (ht : P.underlying t = some (.array n e)) (hE : El enc' P w t sz enc ok) (h : Arg enc' P w base t v d) : ∃ a, v = .agg (enc a).toArray ∧ ok a :=
  Arg.agg (okWide_array ht h.1) hE h
theorem Arg.struct {α : Type} {base : Nat} {t : TypeId} {sz : Nat} {enc : α → List Value} {ok : α → Prop} {fs : Array Field} {v : Value} {d : DataW H} (ht : P.underlying t = some (.struct fs)) (hE : El enc' P w t sz enc ok) (h : Arg enc' P w base t v d) : ∃ a, v = .agg (enc a).toArray ∧ ok a :=
  Arg.agg (by obtain ⟨cs, e, _⟩ := okWide_struct ht h.1; exact ⟨cs, e⟩) hE h
theorem Arg.slice {α : Type} [Inhabited α] {base : Nat} {t e : TypeId} {sz : Nat} {enc : α → List Value} {ok : α → Prop} {v : Value} {d : DataW H} (ht : P.underlying t = some (.slice e)) (hc : P.cellsOf e = sz) (hb : 0 < P.bytesOf e) (hE : El enc' P w e sz enc ok) (h : Arg enc' P w base t v d) :
    ∃ xs, Sl w sz enc v xs ∧ (∀ x ∈ xs, ok x) ∧ xs.length * P.bytesOf e ≤ reachBytes := by
  obtain ⟨h0, ⟨p, fuel, h1⟩, h2⟩ := h
  obtain ⟨a, len, cap, rfl⟩ := okWide_slice ht h0
  obtain ⟨⟨v, xs⟩, e1, _, e2⟩ := El.slice ht hc hb hE fuel _ (d, p) h1 h2
  simp only [Value.cells] at e1
  cases e1
  exact ⟨xs, e2⟩
end
end Go.Sx

/-
  Walks: cmp.Less at integers; rows of integers.
-/
set_option linter.unusedVariables false
namespace Go.Proofs.YtgfaiihekibcbaaGreatDoor
open Go.RowKit Go.Sx Go.Sx.Sz

def encZ (x : Int) : List Value := [.int .i64 x]
theorem Sl.num {w : World} {a? : Option Addr} {n cap : Nat} {xs : List Int} (h : Sl w 1 encZ (.slice a? n cap) xs) (k : Nat) (hk : k < xs.length) :
    ∃ b o, a? = some ⟨b, o, none⟩ ∧ w.cell? ⟨b, o + k, none⟩ = some (.int .i64 xs[k]) := h.at1 k hk

theorem Sl.vec {w : World} {a? : Option Addr} {n cap : Nat} {xs : List V6} (h : Sl w 6 V6.list (.slice a? n cap) xs) (k : Nat) (hk : k < xs.length) : ∃ b o, a? = some ⟨b, o, none⟩ ∧ w.cell? ⟨b, o + k * 6, none⟩ = some (.int .i64 xs[k].a) ∧ w.cell? ⟨b, o + k * 6 + 1, none⟩ = some (.int .i64 xs[k].b) ∧ w.cell? ⟨b, o + k * 6 + 2, none⟩ = some (.int .i64 xs[k].c) ∧ w.cell? ⟨b, o + k * 6 + 3, none⟩ = some (.int .i64 xs[k].d) ∧ w.cell? ⟨b, o + k * 6 + 4, none⟩ = some (.int .i64 xs[k].e) ∧ w.cell? ⟨b, o + k * 6 + 5, none⟩ = some (.int .i64 xs[k].f) := by
  obtain ⟨b, o, e, hc⟩ := h.at (by omega) k hk
  exact ⟨b, o, e, hc 0 (by omega), hc 1 (by omega), hc 2 (by omega), hc 3 (by omega), hc 4 (by omega), hc 5 (by omega)⟩

theorem isnan_walk (x : Int) (w : World) : Calls Tryz.prog 70 #[.int .i64 x] w fun e w' => e = .returned (.bool false) ∧ Ext w w' := by
  go_enter Tryz.func70, Tryz.ntmps70
  go_wp2
  go_ret
  exact ⟨by first | rfl | simp, Ext.refl _⟩

theorem less_walk (x y : Int) (w : World) : Calls Tryz.prog 95 #[.int .i64 x, .int .i64 y] w fun e w' => e = .returned (.bool (decide (x < y))) ∧ Ext w w' := by
  go_enter Tryz.func95, Tryz.ntmps95
  go_wp2_with fail
  refine (isnan_walk x _).mono ?_
  rintro e w1 ⟨rfl, x1⟩
  go_wp2
  go_ret
  exact ⟨by first | rfl | simp, x1⟩

end Go.Proofs.YtgfaiihekibcbaaGreatDoor

/-
  Plain: the exponents of an integer from 1 to 16; sizes of harmonics.
-/
namespace Go.Sx.Sz

def V6.put' (v : V6) (k : Nat) (x : Int) : V6 := V6.of fun j => if j = k then x else v.get j
theorem times_within {v : V6} (h : within v 48 = true) : within (v.times 12) 576 = true := by
  have e : (576 : Int) = 48 * 12 := by decide
  rw [e]
  exact within_times (by omega) h
theorem ofR_ok {v : V6} (h : within v 48 = true) : ofR v = (v.times 12, 0) := by rw [ofR, if_pos h]
end Go.Sx.Sz

/-
  Plain: scores of chapter 19. When a score is valid, and what the functions of the chapter return.
-/
namespace Go.Sx.Sc
open Go.Sx.Sz

/-- A note: its voice, its ticks, its place, and whether it is tied. -/
structure Nt where
  v : Int
  f : Int
  u : Int
  x : V6
  tied : Bool
deriving Inhabited, DecidableEq
/-- A pair. -/
structure Pr where
  a : Int
  b : Int
  want : V6
  bound : Int
deriving Inhabited, DecidableEq
structure Sc where
  voices : Int
  notes : List Nt
  pairs : List Pr
  cads : List Int
deriving Inhabited, DecidableEq

def Sc.N (s : Sc) (i : Nat) : Nt := s.notes.getD i default
def Sc.P (s : Sc) (i : Nat) : Pr := s.pairs.getD i default
def Sc.C (s : Sc) (i : Nat) : Int := s.cads.getD i 0
theorem Sc.N_eq {s : Sc} {i : Nat} (h : i < s.notes.length) : s.N i = s.notes[i] := by
  unfold Sc.N; rw [List.getD_eq_getElem?_getD, List.getElem?_eq_getElem h]; rfl
theorem Sc.P_eq {s : Sc} {i : Nat} (h : i < s.pairs.length) : s.P i = s.pairs[i] := by
  unfold Sc.P; rw [List.getD_eq_getElem?_getD, List.getElem?_eq_getElem h]; rfl
theorem Sc.C_eq {s : Sc} {i : Nat} (h : i < s.cads.length) : s.C i = s.cads[i] := by
  unfold Sc.C; rw [List.getD_eq_getElem?_getD, List.getElem?_eq_getElem h]; rfl

def noteOk (vs : Int) (n : Nt) : Prop := (0 ≤ n.v ∧ n.v < vs) ∧ (0 ≤ n.f ∧ n.f < n.u) ∧ n.u ≤ 100000 ∧ within n.x 24 = true
instance (vs : Int) (n : Nt) : Decidable (noteOk vs n) := by unfold noteOk; infer_instance
def lexN (a b : Nt) : Prop := a.f < b.f ∨ (a.f = b.f ∧ a.v < b.v)
instance (a b : Nt) : Decidable (lexN a b) := by unfold lexN; infer_instance
def lexP (a b : Pr) : Prop := a.a < b.a ∨ (a.a = b.a ∧ a.b < b.b)
instance (a b : Pr) : Decidable (lexP a b) := by unfold lexP; infer_instance
theorem lexN_trans {a b c : Nt} (h : lexN a b) (k : lexN b c) : lexN a c := by unfold lexN at *; omega
theorem lexP_trans {a b c : Pr} (h : lexP a b) (k : lexP b c) : lexP a c := by unfold lexP at *; omega

/-- Not too much of anything. -/
def szOk' (s : Sc) : Prop := (1 ≤ s.voices ∧ s.voices ≤ 8) ∧ s.notes.length ≤ 200 ∧ s.pairs.length ≤ 400 ∧ s.cads.length < 16
instance (s : Sc) : Decidable (szOk' s) := by unfold szOk'; infer_instance
/-- All notes are well-formed and sorted. -/
def ntOk (s : Sc) : Prop := (∀ i, i < s.notes.length → noteOk s.voices (s.N i)) ∧ ∀ i, i < s.notes.length - 1 → lexN (s.N i) (s.N (i + 1))
instance (s : Sc) : Decidable (ntOk s) := by unfold ntOk; infer_instance
/-- What ties a note to an earlier one. -/
def tieOf (s : Sc) (i k : Nat) : Prop := (s.N k).v = (s.N i).v ∧ (s.N k).u = (s.N i).f ∧ (s.N k).x = (s.N i).x
instance (s : Sc) (i k : Nat) : Decidable (tieOf s i k) := by unfold tieOf; infer_instance
/-- No voice has two notes at once, and all ties have their notes. -/
def vcAt (s : Sc) (i : Nat) : Prop := (∀ k, k < i → (s.N k).v = (s.N i).v → (s.N k).u ≤ (s.N i).f) ∧ ((s.N i).tied = true → ¬ ∀ k, k < i → ¬ tieOf s i k)
instance (s : Sc) (i : Nat) : Decidable (vcAt s i) := by unfold vcAt; infer_instance
def vcOk (s : Sc) : Prop := ∀ i, i < s.notes.length → vcAt s i
instance (s : Sc) : Decidable (vcOk s) := by unfold vcOk; infer_instance
def pairOk (s : Sc) (p : Pr) : Prop := (0 ≤ p.a ∧ p.a < p.b) ∧ p.b < s.notes.length ∧ within p.want 16 = true ∧ (0 ≤ p.bound ∧ p.bound ≤ 100000) ∧ (s.N p.a.toNat).v ≠ (s.N p.b.toNat).v ∧ (s.N p.b.toNat).f < (s.N p.a.toNat).u
instance (s : Sc) (p : Pr) : Decidable (pairOk s p) := by unfold pairOk; infer_instance
def prsOk (s : Sc) : Prop := (∀ i, i < s.pairs.length → pairOk s (s.P i)) ∧ ∀ i, i < s.pairs.length - 1 → lexP (s.P i) (s.P (i + 1))
instance (s : Sc) : Decidable (prsOk s) := by unfold prsOk; infer_instance
def cadOk (s : Sc) : Prop := (∀ i, i < s.cads.length → 1 ≤ s.C i ∧ s.C i ≤ 99999) ∧ ∀ i, i < s.cads.length - 1 → s.C i < s.C (i + 1)
instance (s : Sc) : Decidable (cadOk s) := by unfold cadOk; infer_instance
/-- A valid score. -/
structure ScOk (s : Sc) : Prop where
  sz : szOk' s
  nt : ntOk s
  vc : vcOk s
  pr : prsOk s
  cd : cadOk s
theorem scOk_iff {s : Sc} : ScOk s ↔ szOk' s ∧ ntOk s ∧ vcOk s ∧ prsOk s ∧ cadOk s := ⟨fun h => ⟨h.sz, h.nt, h.vc, h.pr, h.cd⟩, fun ⟨a, b, c, d, e⟩ => ⟨a, b, c, d, e⟩⟩
def scB (s : Sc) : Bool := decide (szOk' s) && decide (ntOk s) && decide (vcOk s) && decide (prsOk s) && decide (cadOk s)
theorem scB_iff {s : Sc} : scB s = true ↔ ScOk s := by simp [scB, scOk_iff, and_assoc]
theorem scB_false {s : Sc} (h : ¬ ScOk s) : scB s = false := by
  cases hh : scB s with
  | false => rfl
  | true => exact absurd (scB_iff.1 hh) h

section
variable {s : Sc}
theorem ntOk.lex (h : ntOk s) : ∀ {j i : Nat}, i < j → j < s.notes.length → lexN (s.N i) (s.N j)
  | 0, i, hij, _ => by omega
  | j + 1, i, hij, hj => by
    have h1 := h.2 j (by omega)
    by_cases e : i = j
    · subst e; exact h1
    · exact lexN_trans (ntOk.lex h (by omega) (by omega)) h1
theorem ntOk.from_le (h : ntOk s) {i j : Nat} (hij : i ≤ j) (hj : j < s.notes.length) : (s.N i).f ≤ (s.N j).f := by
  by_cases e : i = j
  · subst e; omega
  · have := ntOk.lex h (show i < j by omega) hj
    unfold lexN at this; omega
theorem ntOk.note (h : ntOk s) {i : Nat} (hi : i < s.notes.length) : noteOk s.voices (s.N i) := h.1 i hi
/-- Two notes of the same voice: the later one begins where the earlier one ends, or later. -/
theorem ScOk.apart (h : ScOk s) {i k : Nat} (hk : k < i) (hi : i < s.notes.length) (hv : (s.N k).v = (s.N i).v) : (s.N k).u ≤ (s.N i).f := (h.vc i hi).1 k hk hv
/-- A voice has only one note that ends at a tick. -/
theorem ScOk.ends (h : ScOk s) {i k : Nat} (hi : i < s.notes.length) (hk : k < s.notes.length) (hv : (s.N k).v = (s.N i).v) (hu : (s.N k).u = (s.N i).u) : i = k := by
  have n1 := (h.nt.note hi).2.1
  have n2 := (h.nt.note hk).2.1
  rcases Nat.lt_trichotomy i k with e | e | e
  · have := h.apart e hk hv.symm; omega
  · exact e
  · have := h.apart e hi hv; omega
theorem ScOk.tie (h : ScOk s) {i : Nat} (hi : i < s.notes.length) (ht : (s.N i).tied = true) : ∃ k, k < i ∧ tieOf s i k := by
  have := (h.vc i hi).2 ht
  exact Classical.byContradiction fun hc => this fun k hk ht => hc ⟨k, hk, ht⟩
theorem cadOk.lt (h : cadOk s) : ∀ {j i : Nat}, i < j → j < s.cads.length → s.C i < s.C j
  | 0, i, hij, _ => by omega
  | j + 1, i, hij, hj => by
    have h1 := h.2 j (by omega)
    by_cases e : i = j
    · subst e; exact h1
    · have := cadOk.lt h (show i < j by omega) (show j < s.cads.length by omega)
      omega
theorem prsOk.lex (h : prsOk s) : ∀ {j i : Nat}, i < j → j < s.pairs.length → lexP (s.P i) (s.P j)
  | 0, i, hij, _ => by omega
  | j + 1, i, hij, hj => by
    have h1 := h.2 j (by omega)
    by_cases e : i = j
    · subst e; exact h1
    · exact lexP_trans (prsOk.lex h (by omega) (by omega)) h1
end

/-- The section of a tick: how many cadences are not later. -/
def secF (s : Sc) (t : Int) : Nat := s.cads.countP (fun c => decide (c ≤ t))
/-- The first index whose note a test accepts. -/
def findL : List Nt → (Nt → Bool) → Nat → Int
  | [], _, _ => -1
  | n :: l, p, k => if p n = true then k else findL l p (k + 1)
def endP (v t : Int) (n : Nt) : Bool := decide (n.v = v) && decide (n.u = t)
def befR (s : Sc) (n : Int) : Int × Int := if scB s = true ∧ 0 ≤ n ∧ n < s.notes.length then ((if (s.N n.toNat).tied = true then findL s.notes (endP (s.N n.toNat).v (s.N n.toNat).f) 0 else -1), 0) else (0, 1)
theorem findL_spec {p : Nt → Bool} : ∀ {l : List Nt} {k : Nat}, (findL l p k = -1 ∧ ∀ n ∈ l, p n = false) ∨ ∃ i : Nat, i < l.length ∧ findL l p k = ((k + i : Nat) : Int) ∧ p (l.getD i default) = true ∧ ∀ j, j < i → p (l.getD j default) = false
  | [], k => .inl ⟨rfl, by simp⟩
  | n :: l, k => by
    unfold findL
    by_cases h : p n = true
    · exact .inr ⟨0, by simp, by rw [if_pos h]; simp, by simpa using h, fun j hj => by omega⟩
    · rw [if_neg h]
      rcases findL_spec (p := p) (l := l) (k := k + 1) with ⟨h1, h2⟩ | ⟨i, h1, h2, h3, h4⟩
      · refine .inl ⟨h1, fun m hm => ?_⟩
        rcases List.mem_cons.1 hm with rfl | hm
        · simpa using h
        · exact h2 m hm
      · refine .inr ⟨i + 1, by simpa using h1, by rw [h2]; omega, by simpa using h3, fun j hj => ?_⟩
        cases j with
        | zero => simpa using h
        | succ j => simpa using h4 j (by omega)
theorem findL_at {p : Nt → Bool} {l : List Nt} {i : Nat} (hi : i < l.length) (h : p (l.getD i default) = true) (hu : ∀ j, j < l.length → p (l.getD j default) = true → j = i) : findL l p 0 = i := by
  rcases findL_spec (p := p) (l := l) (k := 0) with ⟨h1, h2⟩ | ⟨k, h1, h2, h3, h4⟩
  · have := h2 (l.getD i default) (by rw [List.getD_eq_getElem?_getD, List.getElem?_eq_getElem hi]; exact List.getElem_mem hi)
    rw [h] at this; cases this
  · rw [h2, hu k h1 h3]; simp
end Go.Sx.Sc

/-
  Plain: the note of a voice that sounded last.
-/
namespace Go.Sx.Sc
open Go.Sx.Sz

def lastV (l : List Nt) (v : Int) : Nt := l.foldl (fun a n => if n.v = v then n else a) default
theorem lastV_snoc (l : List Nt) (n : Nt) (v : Int) : lastV (l ++ [n]) v = if n.v = v then n else lastV l v := by
  unfold lastV; rw [List.foldl_append]; rfl
theorem take_N {s : Sc} {k : Nat} (h : k < s.notes.length) : s.notes.take (k + 1) = s.notes.take k ++ [s.N k] := by
  rw [List.take_succ_eq_append_getElem h, Sc.N_eq h]
theorem lastV_spec (s : Sc) (v : Int) : ∀ k, k ≤ s.notes.length → (lastV (s.notes.take k) v = default ∧ ∀ j, j < k → (s.N j).v ≠ v) ∨ ∃ j, j < k ∧ (s.N j).v = v ∧ lastV (s.notes.take k) v = s.N j ∧ ∀ i, j < i → i < k → (s.N i).v ≠ v
  | 0, _ => .inl ⟨rfl, fun j h => by omega⟩
  | k + 1, hk => by
    rw [take_N (by omega), lastV_snoc]
    by_cases h : (s.N k).v = v
    · rw [if_pos h]
      exact .inr ⟨k, by omega, h, rfl, fun i h1 h2 => by omega⟩
    · rw [if_neg h]
      rcases lastV_spec s v k (by omega) with ⟨h1, h2⟩ | ⟨j, h1, h2, h3, h4⟩
      · refine .inl ⟨h1, fun j hj => ?_⟩
        rcases Nat.lt_or_ge j k with h5 | h5
        · exact h2 j h5
        · obtain rfl : j = k := by omega
          exact h
      · refine .inr ⟨j, by omega, h2, h3, fun i h5 h6 => ?_⟩
        rcases Nat.lt_or_ge i k with h7 | h7
        · exact h4 i h5 h7
        · obtain rfl : i = k := by omega
          exact h
section
variable {s : Sc} {k : Nat}
theorem vcAt_iff (hn : ntOk s) (hk : k < s.notes.length) (hb : ∀ i, i < k → vcAt s i) :
    vcAt s k ↔ (lastV (s.notes.take k) (s.N k).v).u ≤ (s.N k).f ∧ ((s.N k).tied = true → (lastV (s.notes.take k) (s.N k).v).u = (s.N k).f ∧ (lastV (s.notes.take k) (s.N k).v).u ≠ 0 ∧ (lastV (s.notes.take k) (s.N k).v).x = (s.N k).x) := by
  have h0 := (hn.note hk).2.1
  have hchain : ∀ i j, i < j → j < k → (s.N i).v = (s.N j).v → (s.N i).u < (s.N j).u := fun i j h1 h2 h3 => by
    have := (hb j h2).1 i h1 h3
    have := (hn.note (show j < s.notes.length by omega)).2.1
    omega
  rcases lastV_spec s (s.N k).v k (by omega) with ⟨h1, h2⟩ | ⟨j, h1, h2, h3, h4⟩
  · rw [h1]
    constructor
    · rintro ⟨-, b⟩
      refine ⟨by show (0 : Int) ≤ _; omega, fun ht => absurd (fun i hi hc => h2 i hi hc.1) (b ht)⟩
    · rintro ⟨-, b⟩
      refine ⟨fun i hi hv => absurd hv (h2 i hi), fun ht => absurd rfl (b ht).2.1⟩
  · rw [h3]
    have hj := (hn.note (show j < s.notes.length by omega)).2.1
    constructor
    · rintro ⟨a, b⟩
      have hu := a j h1 h2
      refine ⟨hu, fun ht => ?_⟩
      have hb' := b ht
      obtain ⟨i, hi, hc⟩ : ∃ i, i < k ∧ tieOf s k i := Classical.byContradiction fun hc => hb' fun i hi ht => hc ⟨i, hi, ht⟩
      obtain ⟨c1, c2, c3⟩ := hc
      have : i = j := by
        rcases Nat.lt_trichotomy i j with h | h | h
        · have := hchain i j h h1 (by rw [c1, h2]); omega
        · exact h
        · exact absurd c1 (h4 i h hi)
      subst this
      exact ⟨c2, by omega, c3⟩
    · rintro ⟨a, b⟩
      refine ⟨fun i hi hv => ?_, fun ht hc => ?_⟩
      · rcases Nat.lt_trichotomy i j with h | h | h
        · have := hchain i j h h1 (by rw [hv, h2]); omega
        · subst h; exact a
        · exact absurd hv (h4 i h hi)
      · obtain ⟨b1, b2, b3⟩ := b ht
        exact hc j h1 ⟨h2, b1, b3⟩
theorem vc_bad (hk : k < s.notes.length) (h : ¬ vcAt s k) : decide (vcOk s) = false := decide_eq_false fun hh => h (hh k hk)
/-- The notes that sounded last, of each voice. -/
def lasts (l : List Nt) : List Nt := (List.range 8).map fun j => lastV l (j : Nat)
theorem lasts_len (l : List Nt) : (lasts l).length = 8 := by simp [lasts]
theorem lasts_get (l : List Nt) (j : Nat) (h : j < (lasts l).length) : (lasts l)[j] = lastV l (j : Nat) := by simp [lasts]
theorem lasts_snoc (l : List Nt) (n : Nt) (v : Nat) (hv : n.v = v) (_ : v < 8) : lasts (l ++ [n]) = (lasts l).set v n := by
  apply List.ext_getElem (by simp [lasts])
  intro j h1 h2
  rw [lasts_get, lastV_snoc, List.getElem_set, lasts_get]
  by_cases h : v = j
  · subst h; rw [if_pos hv, if_pos rfl]
  · rw [if_neg (by omega), if_neg h]
end
end Go.Sx.Sc

/-
  How two intervals, and two notes, compare.
-/
namespace Go.Sx.Sz
open Go.RowKit

theorem run_eqZ {P : Program} {e : TypeId} (he : P.underlying e = some (.int .i64)) (d : Nat) (x y : Int) (w : World) : (Op.equalIn (d + 1) e (.int .i64 x) (.int .i64 y)).run P w = .ok (x == y) w := by
  simp [Op.equalIn, run_underlying he]
theorem run_eq_v6 {P : Program} {t e : TypeId} (hu : P.underlying t = some (.array 6 e)) (he : P.underlying e = some (.int .i64)) (hs : (P.info? e).map (·.size) = some 1) (a b : V6) (d : Nat) (w : World) :
    (Op.equalIn (d + 2) t (.agg #[.int .i64 a.a, .int .i64 a.b, .int .i64 a.c, .int .i64 a.d, .int .i64 a.e, .int .i64 a.f]) (.agg #[.int .i64 b.a, .int .i64 b.b, .int .i64 b.c, .int .i64 b.d, .int .i64 b.e, .int .i64 b.f])).run P w = .ok (decide (a = b)) w := by
  obtain ⟨i, hi, hsz⟩ : ∃ i, P.info? e = some i ∧ i.size = 1 := by
    cases h : P.info? e with
    | none => rw [h] at hs; cases hs
    | some i => rw [h] at hs; exact ⟨i, rfl, by simpa using hs⟩
  have hc : P.cellsOf e = 1 := by simp [Program.cellsOf, hi, hsz]
  have hp : ∀ (xs : Array Value) (o : Nat) (v : Value) (u : World), xs[o]? = some v → (part e xs o).run P u = .ok v u := fun xs o v u h => by
    simp [part, sizeOf, typeInfo, hi, hsz, isAgg, run_underlying he, h]
  rw [run_equalIn_array w (d + 1) _ _ hu hi, hc, show List.range 6 = [0, 1, 2, 3, 4, 5] from rfl]
  have p0 := fun (v : V6) => hp #[.int .i64 v.a, .int .i64 v.b, .int .i64 v.c, .int .i64 v.d, .int .i64 v.e, .int .i64 v.f] 0 (.int .i64 v.a) w rfl
  have p1 := fun (v : V6) => hp #[.int .i64 v.a, .int .i64 v.b, .int .i64 v.c, .int .i64 v.d, .int .i64 v.e, .int .i64 v.f] 1 (.int .i64 v.b) w rfl
  have p2 := fun (v : V6) => hp #[.int .i64 v.a, .int .i64 v.b, .int .i64 v.c, .int .i64 v.d, .int .i64 v.e, .int .i64 v.f] 2 (.int .i64 v.c) w rfl
  have p3 := fun (v : V6) => hp #[.int .i64 v.a, .int .i64 v.b, .int .i64 v.c, .int .i64 v.d, .int .i64 v.e, .int .i64 v.f] 3 (.int .i64 v.d) w rfl
  have p4 := fun (v : V6) => hp #[.int .i64 v.a, .int .i64 v.b, .int .i64 v.c, .int .i64 v.d, .int .i64 v.e, .int .i64 v.f] 4 (.int .i64 v.e) w rfl
  have p5 := fun (v : V6) => hp #[.int .i64 v.a, .int .i64 v.b, .int .i64 v.c, .int .i64 v.d, .int .i64 v.e, .int .i64 v.f] 5 (.int .i64 v.f) w rfl
  have hd : decide (a = b) = ((a.a == b.a) && (a.b == b.b) && (a.c == b.c) && (a.d == b.d) && (a.e == b.e) && (a.f == b.f)) := by
    by_cases h : a = b
    · subst h; simp
    · rw [decide_eq_false h]
      symm
      rw [Bool.eq_false_iff]
      intro hh
      simp only [Bool.and_eq_true, beq_iff_eq] at hh
      apply h
      cases a; cases b
      simp only at hh
      obtain ⟨⟨⟨⟨⟨rfl, rfl⟩, rfl⟩, rfl⟩, rfl⟩, rfl⟩ := hh
      rfl
  rw [hd]
  simp only [Op.eqItems, Sem.run_bind, Nat.mul_one, p0, p1, p2, p3, p4, p5, Result.andThen_ok, run_eqZ he, Sem.run_ite, Sem.run_pure]
  cases a.a == b.a <;> cases a.b == b.b <;> cases a.c == b.c <;> cases a.d == b.d <;> cases a.e == b.e <;> cases a.f == b.f <;> rfl
end Go.Sx.Sz
