/-
  append to a literal without elements, and kinds of things that are made in regions that draw.
-/
import Derived.Test.YtajicmghnllnmaaMk
import Derived.Test.YtajicmghnllnmaaAp
import Derived.Test.YtajicmghnllnmaaDy
import Derived.ArgAppend
set_option linter.unusedVariables false
namespace Go.Sx
open Go.RowKit

section
variable {α : Type} {B : Nat} {e : TypeId} {sz : Nat} {enc : α → List Value} {w : World}

theorem Sl.news {ys : List α} {ad : Addr} {n c : Nat} (S : Sl w sz enc (.slice (some ad) n c) ys) (hsz : 0 < sz) (hl : ∀ y ∈ ys, (enc y).length = sz) : ∀ j u, (ys.flatMap enc)[j]? = some u → w.cell? (ad.add j) = some u := fun j u hu => by
  obtain ⟨a?, c', e, h2, h3, h4, h5⟩ := S
  injection e with e1 e2 e3
  have hj : j < ys.length * sz := by
    have := (List.getElem?_eq_some_iff.1 hu).1
    rwa [flatMap_len' hl] at this
  have hq : j / sz < ys.length := (Nat.div_lt_iff_lt_mul hsz).2 hj
  have hr : j % sz < sz := Nat.mod_lt _ hsz
  obtain ⟨ad', e4, hc⟩ := h5 (j / sz) hq
  cases e1.trans e4
  have hd : j / sz * sz + j % sz = j := by rw [Nat.mul_comm]; exact Nat.div_add_mod j sz
  have hc2 := hc (j % sz) hr
  rw [hd] at hc2
  have hg := flatMap_get hl (j / sz) (j % sz) hq hr
  rw [hd, hu] at hg
  rw [hc2, ← hg]

/-- append of all that a slice holds to a literal without elements: nothing that was there turns. -/
theorem run_app0 {P : Program} {t : TypeId} {bytes : Nat} (E : ET P t e sz bytes) (ty : TypeId) {g : Nat} (hown : OwnR w B e sz enc (.slice (some ⟨g, 0, none⟩) 0 0) ([] : List α)) (ys : List α) (u : Value) (S : Sl w sz enc u ys) (hl : ∀ y ∈ ys, (enc y).length = sz)
    (hbytes : ys.length * bytes ≤ 140737488355328) (hbase : B ≤ w.heap.size) :
    ∃ v' w', (Builtin.append_ #[t, t] ty #[.slice (some ⟨g, 0, none⟩) 0 0, u]).run P w = .ok v' w' ∧ OwnR w' B e sz enc v' ys ∧ Ext w w' ∧ (ys = [] → v' = .slice (some ⟨g, 0, none⟩) 0 0) := by
  obtain ⟨ht, ⟨i, z, hi, hz, hsz, hby, hzs⟩, hs0, hb0⟩ := E
  have S0 := S
  obtain ⟨a?, cap, rfl, h2, h3, h4, h5⟩ := S
  cases a? with
  | none =>
    have hy : ys = [] := by
      cases ys with
      | nil => rfl
      | cons y ys => obtain ⟨ad, e1, _⟩ := h5 0 (by simp); cases e1
    subst hy
    exact ⟨_, w, run_append_none w ht hi (some ⟨g, 0, none⟩) 0 0 cap (Nat.le_refl _) (fun a h => by cases h; rfl), hown, Ext.refl _, fun _ => rfl⟩
  | some ad =>
    by_cases hy : ys = []
    · subst hy
      have hr := run_append_room_src (P := P) w t t ty e i ht hi g 0 0 0 (.slice (some ad) 0 cap) 0 [] (Src.ofSlice w ht ad 0 cap [] (by simp) (fun j u hu => by simp at hu) (fun _ h => by cases h)) (by omega) (fun j hj => absurd hj (by simp)) (fun j hj => absurd hj (by simp))
      exact ⟨_, w, hr, hown, Ext.refl _, fun _ => rfl⟩
    · have hpos : 0 < ys.length := by cases ys with | nil => exact absurd rfl hy | cons _ _ => simp
      have hn : ys.length ≤ ys.length * bytes := Nat.le_mul_of_pos_right _ hb0
      obtain ⟨v', w', hr, ho, hg⟩ := run_append_arg_grows (P := P) w t ty e i z sz bytes ht hi hz hsz hby hzs hs0 ⟨g, 0, none⟩ 0 0 [] (by simp) (fun j u hu => by simp at hu) ad ys.length cap (ys.flatMap enc) (flatMap_len' hl) (S0.news hs0 hl) (by omega) (by simp only [maxLen]; omega) (by simpa using hbytes)
      refine ⟨v', w', hr, ?_, (Below.refl _ w).grown hg (Nat.le_refl _) (fun k hk => by cases hk), fun h => absurd h hy⟩
      simp only [Nat.zero_add, List.nil_append] at ho
      have : OwnR w' w.heap.size e sz enc v' ys := ho
      exact this.mono hbase
theorem opR_app0 {P : Program} {t : TypeId} {bytes : Nat} (E : ET P t e sz bytes) {o : Oper} {a : Act} {K : Value → World → Prop} (s x : Operand) (ho : o.op = .call { callee := .builtin .append, args := #[s, x], argTypes := #[t, t] })
    {g : Nat} (hown : OwnR w B e sz enc (.slice (some ⟨g, 0, none⟩) 0 0) ([] : List α)) (hs : a.eval s = .slice (some ⟨g, 0, none⟩) 0 0) (ys : List α) (u : Value) (S : Sl w sz enc u ys) (hx : a.eval x = u) (hl : ∀ y ∈ ys, (enc y).length = sz)
    (hbytes : ys.length * bytes ≤ 140737488355328) (hbase : B ≤ w.heap.size) (h : ∀ v' w', OwnR w' B e sz enc v' ys → Ext w w' → (ys = [] → v' = .slice (some ⟨g, 0, none⟩) 0 0) → K v' w') : opR P o a w K := by
  obtain ⟨v', w', hr, h1, h2, h3⟩ := run_app0 E o.type hown ys u S hl hbytes hbase
  unfold opR execOp
  simp only [ho, resolve, invoke, builtin, Sem.run_bind, Sem.run_pure, Result.andThen_ok, List.map_toArray, List.map_cons, List.map_nil, hs, hx, hr]
  exact h v' w' h1 h2 h3

/-! ### Kinds -/
theorem stable_own' (B : Nat) (e : TypeId) (sz : Nat) (enc : α → List Value) (xs : List α) (v : Value) : Stable Ext (fun w => OwnR w B e sz enc v xs) := fun _ _ h k => h.ext k
/-- A literal without elements. -/
def Zero (v : Value) : Prop := ∃ g, v = .slice (some ⟨g, 0, none⟩) 0 0
theorem zero0 : Zero (.slice (some ⟨0, 0, none⟩) 0 0) := ⟨0, rfl⟩
theorem OwnR.row {v : Value} {xs : List α} (h : OwnR w B e sz enc v xs) : ∃ a? c, v = .slice a? xs.length c := h.len
end
end Go.Sx
