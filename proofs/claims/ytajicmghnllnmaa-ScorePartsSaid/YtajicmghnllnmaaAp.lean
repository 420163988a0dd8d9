/-
  append of a whole slice, nil or not, onto an owned row.
-/
import Derived.Test.YtajicmghnllnmaaLib
import Derived.Deep.AppendSrc
namespace Go.Sx
open Go.RowKit

theorem run_append_none {P : Program} (w : World) {t e ty : TypeId} {i : TypeInfo} (ht : P.underlying t = some (.slice e)) (hi : P.info? e = some i) (a? : Option Addr) (n cap c : Nat) (hn : n ≤ cap) (hs : ∀ a, a? = some a → a.spot = none) :
    (Builtin.append_ #[t, t] ty #[.slice a? n cap, .slice none 0 c]).run P w = .ok (.slice a? n cap) w := by
  cases a? with
  | none => simp [Builtin.append_, run_underlying ht, sizeOf, typeInfo, hi, Builtin.lenOf, Builtin.firstCells, hn]
  | some a =>
    obtain ⟨b, o, s⟩ := a
    cases hs _ rfl
    rw [run_append_room_src (P := P) w t t ty e i ht hi b o n cap (.slice none 0 c) 0 [] (Src.ofNil w ht c) (by omega) (fun j hj => absurd hj (by simp)) (fun j hj => absurd hj (by simp))]
    rfl

section
variable {α : Type} {B : Nat} {e : TypeId} {sz : Nat} {enc : α → List Value} {v : Value} {xs : List α} {w : World}

/-- append of all that a slice holds. -/
theorem wpList_own_sl {P : Program} {t : TypeId} {bytes : Nat} (E : ET P t e sz bytes) {ops : Array Oper} {rest : List Oper} {o : Oper} {a : Act} {Q : Exit → Act → World → Prop} (hgd : o.guard = none) (s x : Operand)
    (ho : o.op = .call { callee := .builtin .append, args := #[s, x], argTypes := #[t, t] })
    (hown : OwnR w B e sz enc v xs) (hs : a.eval s = v) (ys : List α) (u : Value) (S : Sl w sz enc u ys) (hx : a.eval x = u) (hl : ∀ y ∈ ys, (enc y).length = sz)
    (h1 : ∀ y ∈ ys, ∀ u ∈ enc y, u.oneCell' = true)
    (hbytes : (xs.length + ys.length) * bytes ≤ 140737488355328) (hbase : B ≤ w.heap.size)
    (h : ∀ v' w', OwnR w' B e sz enc v' (xs ++ ys) → Below B w w' → Appd w w' v v' → wpList P ops Q rest (a.put o.dst v') w') : wpList P ops Q (o :: rest) a w := by
  obtain ⟨a?, cap, rfl, h2, h3, h4, h5⟩ := S
  cases a? with
  | some ad =>
    refine wpList_own_app E hgd s x ho hown hs ys ad cap hx hl (fun j u hu => ?_) h1 hbytes hbase fun v' w' k1 k2 k3 _ => h v' w' k1 k2 k3
    have hszp := E.hs
    have hj : j < ys.length * sz := by
      have := (List.getElem?_eq_some_iff.1 hu).1
      rwa [show (ys.flatMap enc).length = ys.length * sz from by
        clear hu this h5 hx hbytes h h1 h2 h3 h4
        induction ys with
        | nil => simp
        | cons y ys ih => rw [List.flatMap_cons, List.length_append, hl y (by simp), ih (fun z hz => hl z (by simp [hz])), List.length_cons, Nat.succ_mul]; omega] at this
    have hq : j / sz < ys.length := (Nat.div_lt_iff_lt_mul hszp).2 hj
    have hr : j % sz < sz := Nat.mod_lt _ hszp
    obtain ⟨ad', e1, hc⟩ := h5 (j / sz) hq
    cases e1
    have hd : j / sz * sz + j % sz = j := by rw [Nat.mul_comm]; exact Nat.div_add_mod j sz
    have hc2 := hc (j % sz) hr
    rw [hd] at hc2
    have hg := flatMap_get hl (j / sz) (j % sz) hq hr
    rw [hd, hu] at hg
    rw [hc2, ← hg]
  | none =>
    have hy : ys = [] := by
      cases ys with
      | nil => rfl
      | cons y ys => obtain ⟨ad, e1, _⟩ := h5 0 (by simp); cases e1
    subst hy
    obtain ⟨ht, ⟨i, z, hi, hz, hsz, hby, hzs⟩, hs0, hb0⟩ := E
    have hshape := hown
    obtain ⟨_, hr⟩ := hown
    have hv : ∃ a? c2, v = .slice a? xs.length c2 ∧ xs.length ≤ c2 ∧ (∀ ad, a? = some ad → ad.spot = none) := by
      rcases hr with ⟨rfl, hx0⟩ | ⟨g, cap2, cur, rfl, _, _, _, hcap⟩
      · exact ⟨none, 0, by rw [hx0], by rw [hx0]; exact Nat.le_refl _, fun _ h => by cases h⟩
      · exact ⟨_, _, rfl, by omega, fun ad h => by cases h; rfl⟩
    obtain ⟨va, c2, rfl, hle, hsp⟩ := hv
    refine wpList_plain hgd fun K hK => ?_
    unfold Oper.wp execOp
    simp only [ho, resolve, invoke, builtin, Sem.run_bind, Sem.run_pure, Result.andThen_ok, List.map_toArray, List.map_cons, List.map_nil, hs, hx, List.length_nil, run_append_none w ht hi va xs.length c2 cap hle hsp]
    refine hK _ _ (h _ w (by rw [List.append_nil]; exact hshape) (Below.refl _ _) ⟨fun b hb hne => rfl, .inl rfl, Nat.le_refl _, rfl, rfl, rfl⟩)
end
end Go.Sx
