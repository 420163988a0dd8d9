/-
  Regions in which several appends follow one another: what an append leaves alone, small rows among it.
-/
import Derived.Test.YtajicmghnllnmaaAz
set_option linter.unusedVariables false
namespace Go.Sx
open Go.RowKit

/-- Below B nothing turns, nor does any row of at most sz cells. -/
structure Keeps (B sz : Nat) (w w' : World) : Prop where
  os : w'.os = w.os
  tape : w'.tape = w.tape
  output : w'.output = w.output
  size : w.heap.size ≤ w'.heap.size
  low : ∀ b, b < B → b < w.heap.size → w'.heap[b]? = w.heap[b]?
  small : ∀ (b : Nat) (cs : Array Value) (e : TypeId) (fz : Nat × Nat), w.heap[b]? = some (.cells cs e fz) → cs.size ≤ sz → w'.heap[b]? = some (.cells cs e fz)

section
variable {α : Type} {B sz : Nat} {e : TypeId} {enc : α → List Value} {w w' : World}

theorem Keeps.of_ext (h : Ext w w') : Keeps B sz w w' :=
  ⟨h.os, h.tape, h.output, h.size, fun b _ hb => h.block b hb, fun b cs e fz hc _ => (h.block b (Array.getElem?_eq_some_iff.1 hc).1).trans hc⟩
theorem keeps_cd (W : World) (sz : Nat) : Stable (Keeps W.heap.size sz) (Ext W) := fun w w' h k =>
  ⟨k.os.trans h.os, k.tape.trans h.tape, k.output.trans h.output, Nat.le_trans h.size k.size, fun b hb => (k.low b hb (Nat.lt_of_lt_of_le hb h.size)).trans (h.block b hb)⟩
theorem Sl1.stableK (B' B : Nat) (e : TypeId) (cs : Array Value) (v : Value) (h : cs.size ≤ sz) : Stable (Keeps B' sz) (Sl1 B e cs v) := by
  rintro w w' ⟨b, h1, h2, h3⟩ k
  exact ⟨b, h1, h2, k.small _ _ _ _ h3 h⟩

/-- A literal without elements. -/
def Lit0 (B : Nat) (e : TypeId) (v : Value) (w : World) : Prop := ∃ g, v = .slice (some ⟨g, 0, none⟩) 0 0 ∧ B ≤ g ∧ w.heap[g]? = some (.cells #[] e (0, 0))
theorem Lit0.stableK (B' B : Nat) (e : TypeId) (v : Value) : Stable (Keeps B' sz) (Lit0 B e v) := by
  rintro w w' ⟨b, h1, h2, h3⟩ k
  exact ⟨b, h1, h2, k.small _ _ _ _ h3 (Nat.zero_le _)⟩
theorem Lit0.own {v : Value} (h : Lit0 B e v w) : OwnR w B e sz enc v ([] : List α) := by
  obtain ⟨g, rfl, h2, h3⟩ := h
  exact ⟨by simp, .inr ⟨g, 0, #[], rfl, h2, h3, Nat.le_refl _, Nat.zero_le _, by simp, by simp⟩⟩
theorem Lit0.new (w : World) {B : Nat} (hB : B ≤ w.heap.size) (e : TypeId) : Lit0 B e (.slice (some ⟨w.heap.size, 0, none⟩) 0 0) (w.alloc (.cells #[] e)) := ⟨_, rfl, hB, World.alloc_heap_new w _⟩

/-- append of all that a slice holds to an own row: no small row turns, if the row has no spare room but behind an element. -/
theorem run_app_keep {P : Program} {t : TypeId} {bytes : Nat} (E : ET P t e sz bytes) (ty : TypeId) {v : Value} {xs : List α} (hown : OwnR w B e sz enc v xs) (hx : 0 < xs.length ∨ Zero v) (ys : List α) (u : Value) (S : Sl w sz enc u ys) (hl : ∀ y ∈ ys, (enc y).length = sz)
    (h1 : ∀ y ∈ ys, ∀ u ∈ enc y, u.oneCell' = true) (hlx : ∀ x ∈ xs, (enc x).length = sz) (hbytes : (xs.length + ys.length) * bytes ≤ 140737488355328) (hbase : B ≤ w.heap.size) :
    ∃ v' w', (Builtin.append_ #[t, t] ty #[v, u]).run P w = .ok v' w' ∧ OwnR w' B e sz enc v' (xs ++ ys) ∧ Keeps B sz w w' := by
  obtain ⟨ht, ⟨i, z, hi, hz, hsz, hby, hzs⟩, hs0, hb0⟩ := E
  have hshape := hown
  have hcells := fun g hg => World.ownsRow.cells hown (g := g) hg
  obtain ⟨hlen, ⟨rfl, h0⟩ | ⟨g, cap, cur, rfl, hB, hg, hn, hm, hcs, htk⟩⟩ := hown
  · rcases hx with h | ⟨g, h⟩
    · omega
    · cases h
  have S0 := S
  obtain ⟨a?, cu, rfl, h2, h3, h4, h5⟩ := S
  cases a? with
  | none =>
    have hy : ys = [] := by
      cases ys with
      | nil => rfl
      | cons y ys => obtain ⟨ad, e1, _⟩ := h5 0 (by simp); cases e1
    subst hy
    exact ⟨_, w, run_append_none w ht hi (some ⟨g, 0, none⟩) xs.length cap cu hn (fun a h => by cases h; rfl), by rw [List.append_nil]; exact hshape, Keeps.of_ext (Ext.refl _)⟩
  | some ad =>
    by_cases hy : ys = []
    · subst hy
      have hr := run_append_room_src (P := P) w t t ty e i ht hi g 0 xs.length cap (.slice (some ad) 0 cu) 0 [] (Src.ofSlice w ht ad 0 cu [] (by simp) (fun j u hu => by simp at hu) (fun _ h => by cases h)) (by omega) (fun j hj => absurd hj (by simp)) (fun j hj => absurd hj (by simp))
      exact ⟨_, w, hr, by rw [List.append_nil]; exact hshape, Keeps.of_ext (Ext.refl _)⟩
    · have hpos : 0 < ys.length := by cases ys with | nil => exact absurd rfl hy | cons _ _ => simp
      have hle : xs.length + ys.length ≤ (xs.length + ys.length) * bytes := Nat.le_mul_of_pos_right _ hb0
      have h63 : xs.length + ys.length ≤ maxLen := by simp only [maxLen]; omega
      have h1' : ∀ u ∈ ys.flatMap enc, u.oneCell' = true := fun u hu => by obtain ⟨y, hy, hu⟩ := List.mem_flatMap.1 hu; exact h1 y hy u hu
      obtain ⟨v', w', hr, k2, k3, k4⟩ := run_append_own (P := P) w B t ty e i z sz bytes ht hi hz hsz hby hzs hs0 _ xs.length _ hshape ad ys.length cu _ (flatMap_len' hl) (S0.news hs0 hl) h1' h63 hbytes hbase
      refine ⟨v', w', hr, ?_, k3.os, k3.tape, k3.output, k3.size, fun b hb hbs => k3.block b hbs (fun h => ?_), fun b cs' e' fz hc hsm => ?_⟩
      · unfold OwnR; rw [List.length_append, List.flatMap_append]; exact k2
      · injection h with h; simp only at h; omega
      · have hbs := (Array.getElem?_eq_some_iff.1 hc).1
        by_cases hbg : b = g
        · subst hbg
          rw [hg] at hc
          cases hc
          have hcap : cap ≤ 1 := by
            rw [hcs] at hsm
            rcases Nat.lt_or_ge 1 cap with h | h
            · have : 2 * sz ≤ cap * sz := Nat.mul_le_mul_right _ h
              omega
            · exact h
          have hlt : cap < xs.length + ys.length := by
            rcases hx with h | ⟨g', h⟩
            · omega
            · injection h with _ h1 h2; omega
          obtain ⟨v2, w2, hr2, _, hg2⟩ := run_append_arg_grows (P := P) w t ty e i z sz bytes ht hi hz hsz hby hzs hs0 ⟨b, 0, none⟩ xs.length cap (xs.flatMap enc) (flatMap_len' hlx) (fun j u hu => hcells b rfl j u hu) ad ys.length cu (ys.flatMap enc) (flatMap_len' hl) (S0.news hs0 hl) hlt h63 hbytes
          rw [hr] at hr2
          cases hr2
          rw [hg2.block b hbs (fun h => by cases h)]; exact hg
        · rw [k3.block b hbs (fun h => hbg (by cases h; rfl))]; exact hc
theorem opR_app_keep {P : Program} {t : TypeId} {bytes : Nat} (E : ET P t e sz bytes) {o : Oper} {a : Act} {K : Value → World → Prop} (s x : Operand) (ho : o.op = .call { callee := .builtin .append, args := #[s, x], argTypes := #[t, t] })
    {v : Value} {xs : List α} (hown : OwnR w B e sz enc v xs) (hx : 0 < xs.length ∨ Zero v) (hs : a.eval s = v) (ys : List α) (u : Value) (S : Sl w sz enc u ys) (hxu : a.eval x = u) (hl : ∀ y ∈ ys, (enc y).length = sz)
    (h1 : ∀ y ∈ ys, ∀ u ∈ enc y, u.oneCell' = true) (hlx : ∀ x ∈ xs, (enc x).length = sz) (hbytes : (xs.length + ys.length) * bytes ≤ 140737488355328) (hbase : B ≤ w.heap.size)
    (h : ∀ v' w', OwnR w' B e sz enc v' (xs ++ ys) → Keeps B sz w w' → K v' w') : opR P o a w K := by
  obtain ⟨v', w', hr, k1, k2⟩ := run_app_keep E o.type hown hx ys u S hl h1 hlx hbytes hbase
  unfold opR execOp
  simp only [ho, resolve, invoke, builtin, Sem.run_bind, Sem.run_pure, Result.andThen_ok, List.map_toArray, List.map_cons, List.map_nil, hs, hxu, hr]
  exact h v' w' k1 k2

/-- x[k:m] of a slice. -/
theorem Sl.cut {a? : Option Addr} {n cap : Nat} {xs : List α} (S : Sl w sz enc (.slice a? n cap) xs) (hsz : 0 < sz) (k m : Nat) (hk : k ≤ m) (hm : m ≤ xs.length) : Sl w sz enc (sliced a? k m cap sz) ((xs.take m).drop k) := by
  obtain ⟨_, _, e1, h1, h2, h3⟩ := S.len
  injection e1 with e1 e2 e3
  subst e2 e3
  unfold sliced
  have hl : ((xs.take m).drop k).length = m - k := by simp; omega
  by_cases hkm : k = m
  · subst hkm
    refine ⟨_, _, by rw [hl], by omega, by omega, by omega, fun i hi => by omega⟩
  · obtain ⟨b, o, rfl, _⟩ := S.at hsz k (by omega)
    rw [if_neg (by omega)]
    simp only [Option.map_some, Addr.add_lit]
    exact Sl.mid S k m (cap - k) hm hk (by omega) (by omega)
end
end Go.Sx
