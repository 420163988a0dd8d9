/-
  Libraries of these proofs, laid as one text: ChM, ChN, ChO, ChP, ChQ, ChR, ChS, ChT, ChU, ChV.
-/
import Derived.Test.YtgfaiihekibcbaaGreatDoorLibB
import Derived.Test.YtgfaiihekibcbaaGreatDoorLibP
import Derived.Test.YtgfaiihekibcbaaGreatDoorLibV
/-
  Plain: walks in a graph of edges; where all closed walks that are not longer than the number of the notes have the unison as their product, all closed walks have (TopOneRoot).
-/
set_option linter.unusedVariables false
namespace Go.Sx.Ch
open Go.Sx.Sz

/-- An edge: a step with its product. -/
structure Ed where
  f : Nat
  t : Nat
  k : Int
  v : V6
deriving Inhabited
/-- The walk leads from a to b through edges. -/
def walk (E : Ed → Prop) : Nat → Nat → List Ed → Prop
  | a, b, [] => a = b
  | a, b, e :: l => E e ∧ e.f = a ∧ walk E e.t b l
/-- One part of a walk's product. -/
def pr (k : Nat) (l : List Ed) : Int := (l.map fun e => e.v.get k).sum
theorem pr_app (k : Nat) (l m : List Ed) : pr k (l ++ m) = pr k l + pr k m := by unfold pr; rw [List.map_append, List.sum_append]
theorem walk_app {E : Ed → Prop} : ∀ {a b : Nat} {l m : List Ed}, walk E a b (l ++ m) ↔ ∃ c, walk E a c l ∧ walk E c b m
  | a, b, [], m => ⟨fun h => ⟨a, rfl, h⟩, fun ⟨c, h, k⟩ => by cases h; exact k⟩
  | a, b, e :: l, m => by
    rw [List.cons_append, walk, @walk_app E e.t b l m]
    constructor
    · rintro ⟨h1, h2, c, h3, h4⟩; exact ⟨c, ⟨h1, h2, h3⟩, h4⟩
    · rintro ⟨c, ⟨h1, h2, h3⟩, h4⟩; exact ⟨h1, h2, c, h3, h4⟩
/-- A list of different numbers below N has at most N. -/
theorem nodup_len : ∀ (N : Nat) (l : List Nat), l.Nodup → (∀ x ∈ l, x < N) → l.length ≤ N
  | 0, l, _, h => by
    cases l with
    | nil => exact Nat.le_refl _
    | cons x l => exact absurd (h x (by simp)) (Nat.not_lt_zero _)
  | N + 1, l, hn, h => by
    have h1 := nodup_len N (l.erase N) (hn.erase N) fun x hx => by
      have h2 := (hn.mem_erase_iff).1 hx
      have := h x h2.2
      omega
    rw [List.length_erase] at h1
    split at h1 <;> omega
theorem twice {N : Nat} {l : List Nat} (h : ∀ x ∈ l, x < N) (hl : N < l.length) : ∃ i j, i < j ∧ ∃ (h1 : i < l.length) (h2 : j < l.length), l[i] = l[j] := by
  apply Classical.byContradiction
  intro hne
  have hn : l.Nodup := by
    unfold List.Nodup
    rw [List.pairwise_iff_getElem]
    intro i j hi hj hij he
    exact hne ⟨i, j, hij, hi, hj, he⟩
  have := nodup_len N l hn h
  omega
/-- A walk that is longer than the number of the notes holds a closed walk. -/
theorem walk_loop {E : Ed → Prop} {N : Nat} (hE : ∀ e, E e → e.f < N) {a b : Nat} {l : List Ed} (h : walk E a b l) (hl : N < l.length) :
    ∃ x y z c, l = x ++ y ++ z ∧ 0 < y.length ∧ y.length < l.length ∧ walk E a c x ∧ walk E c c y ∧ walk E c b z := by
  have hEl : ∀ (l : List Ed) {a b : Nat}, walk E a b l → ∀ e ∈ l, E e := by
    intro l
    induction l with
    | nil => intro a b _ e he; simp at he
    | cons e l ih =>
      intro a b h e' he
      rcases List.mem_cons.1 he with rfl | he
      · exact h.1
      · exact ih h.2.2 e' he
  obtain ⟨i, j, hij, h1, h2, he⟩ := @twice N (l.map (·.f)) (fun x hx => by
    obtain ⟨e, he, rfl⟩ := List.mem_map.1 hx
    exact hE e (hEl l h e he)) (by rw [List.length_map]; exact hl)
  rw [List.length_map] at h1 h2
  rw [List.getElem_map, List.getElem_map] at he
  have hfst : ∀ {l : List Ed} {a b : Nat}, walk E a b l → ∀ (h0 : 0 < l.length), l[0].f = a := by
    intro l a b h h0
    cases l with
    | nil => simp at h0
    | cons e l => exact h.2.1
  have e1 : l = l.take i ++ (l.drop i).take (j - i) ++ l.drop j := by
    rw [List.append_assoc, show l.drop j = (l.drop i).drop (j - i) by rw [List.drop_drop]; congr 1; omega, List.take_append_drop, List.take_append_drop]
  have h3 := h
  rw [e1, walk_app] at h3
  obtain ⟨c, h4, h5⟩ := h3
  obtain ⟨d, h6, h7⟩ := walk_app.1 h4
  have hd : d = l[i].f := by
    have := hfst h7 (by rw [List.length_take, List.length_drop]; omega)
    rw [← this]
    simp
  have hc : c = l[j].f := by
    have := hfst h5 (by rw [List.length_drop]; omega)
    rw [← this]
    simp
  have hcd : c = d := by rw [hc, hd, he]
  subst hcd
  exact ⟨_, _, _, c, e1, by rw [List.length_take, List.length_drop]; omega, by rw [List.length_take, List.length_drop]; omega, h6, h7, h5⟩
/-- Where the short closed walks have no product, no closed walk has. -/
theorem closed_zero {E : Ed → Prop} {N : Nat} (hE : ∀ e, E e → e.f < N) (hs : ∀ a l, walk E a a l → l.length ≤ N → ∀ k, k < 6 → pr k l = 0) :
    ∀ (n : Nat) (a : Nat) (l : List Ed), l.length ≤ n → walk E a a l → ∀ k, k < 6 → pr k l = 0 := by
  intro n
  induction n with
  | zero => intro a l hl h k hk; exact hs a l h (by omega) k hk
  | succ n ih =>
    intro a l hl h k hk
    by_cases hN : l.length ≤ N
    · exact hs a l h hN k hk
    · obtain ⟨x, y, z, c, e, h1, h5, h2, h3, h4⟩ := walk_loop hE h (by omega)
      have hlen : l.length = x.length + y.length + z.length := by rw [e, List.length_append, List.length_append]
      have p1 := ih a (x ++ z) (by rw [List.length_append]; omega) (walk_app.2 ⟨c, h2, h4⟩) k hk
      rw [pr_app] at p1
      have p2 := ih c y (by omega) h3 k hk
      rw [e, pr_app, pr_app]
      omega
end Go.Sx.Ch

/-
  Plain: up to two different values out of many (TopOneRoot): what 'put', 'opens' and 'longer' of package chain keep.
-/
set_option linter.unusedVariables false
namespace Go.Sx.Ch
open Go.Sx.Sz

def putR (r : List V6) (v : V6) : List V6 := if r.length < 2 ∧ (r.length = 0 ∨ r.getD 0 V6.zero ≠ v) then r ++ [v] else r
/-- At most two different values of a set; if fewer, all. -/
structure Two (r : List V6) (P : V6 → Prop) : Prop where
  mem : ∀ v ∈ r, P v
  nd : r.Nodup
  le : r.length ≤ 2
  all : r.length < 2 → ∀ v, P v → v ∈ r
theorem Two.nil : Two [] (fun _ => False) := ⟨fun v h => by simp at h, List.nodup_nil, by simp, fun _ _ h => h.elim⟩
theorem Two.put {r : List V6} {P : V6 → Prop} (h : Two r P) (v : V6) : Two (putR r v) (fun u => P u ∨ u = v) := by
  unfold putR
  match r, h with
  | [], h =>
    rw [if_pos ⟨by simp, .inl rfl⟩]
    exact ⟨fun u hu => .inr (by simpa using hu), by simp, by simp, fun _ u hu => by
      rcases hu with hu | hu
      · exact absurd (h.all (by simp) u hu) (by simp)
      · simp [hu]⟩
  | [a], h =>
    by_cases e : a = v
    · subst e
      rw [if_neg (by simp)]
      exact ⟨fun u hu => .inl (h.mem u hu), h.nd, h.le, fun hl u hu => by
        rcases hu with hu | hu
        · exact h.all hl u hu
        · simp [hu]⟩
    · rw [if_pos ⟨by simp, .inr (by simpa using e)⟩]
      refine ⟨fun u hu => ?_, ?_, by simp, fun hl => by simp at hl⟩
      · rcases List.mem_append.1 hu with hu | hu
        · exact .inl (h.mem u hu)
        · exact .inr (by simpa using hu)
      · simp [e]
  | [a, b], h =>
    rw [if_neg (by simp)]
    exact ⟨fun u hu => .inl (h.mem u hu), h.nd, h.le, fun hl => by simp at hl⟩
  | a :: b :: c :: l, h => exact absurd h.le (by simp)
theorem Two.fold : ∀ (xs : List V6) {r : List V6} {P : V6 → Prop}, Two r P → Two (xs.foldl putR r) (fun u => P u ∨ u ∈ xs)
  | [], r, P, h => ⟨fun v hv => .inl (h.mem v hv), h.nd, h.le, fun hl v hv => by
      rcases hv with hv | hv
      · exact h.all hl v hv
      · simp at hv⟩
  | x :: xs, r, P, h => by
    have k := Two.fold xs (h.put x)
    rw [List.foldl_cons]
    exact ⟨fun v hv => by
      rcases k.mem v hv with (h1 | h1) | h1
      · exact .inl h1
      · exact .inr (by simp [h1])
      · exact .inr (by simp [h1]), k.nd, k.le, fun hl v hv => k.all hl v (by
      rcases hv with hv | hv
      · exact .inl (.inl hv)
      · rcases List.mem_cons.1 hv with hv | hv
        · exact .inl (.inr hv)
        · exact .inr hv)⟩
theorem Two.congr {r : List V6} {P Q : V6 → Prop} (h : Two r P) (e : ∀ v, P v ↔ Q v) : Two r Q := ⟨fun v hv => (e v).1 (h.mem v hv), h.nd, h.le, fun hl v hv => h.all hl v ((e v).2 hv)⟩
theorem two_pair {r : List V6} (h : r.Nodup) (h2 : r.length = 2) : ∃ a b, r = [a, b] ∧ a ≠ b := by
  match r, h, h2 with
  | [a, b], h, _ => exact ⟨a, b, rfl, by simpa using h⟩
theorem add_inj {a u v : V6} (h : a.add u 1 = a.add v 1) : u = v := by
  cases a; cases u; cases v
  simp only [V6.add, V6.of, V6.get, V6.mk.injEq] at h ⊢
  omega
/-- The values behind one more edge. -/
theorem Two.longer {es : List Ed} {kept : Nat → List V6} {P : Nat → V6 → Prop} (h : ∀ e ∈ es, Two (kept e.t) (P e.t)) :
    Two ((es.flatMap fun e => (kept e.t).map fun u => e.v.add u 1).foldl putR []) (fun v => ∃ e ∈ es, ∃ u, P e.t u ∧ v = e.v.add u 1) := by
  have k := Two.fold (es.flatMap fun e => (kept e.t).map fun u => e.v.add u 1) Two.nil
  refine ⟨fun v hv => ?_, k.nd, k.le, fun hl v hv => ?_⟩
  · rcases k.mem v hv with h1 | h1
    · exact h1.elim
    · obtain ⟨e, he, h2⟩ := List.mem_flatMap.1 h1
      obtain ⟨u, hu, rfl⟩ := List.mem_map.1 h2
      exact ⟨e, he, u, (h e he).mem u hu, rfl⟩
  · obtain ⟨e, he, u, hu, rfl⟩ := hv
    have he2 := h e he
    have hin : ∀ u ∈ kept e.t, e.v.add u 1 ∈ (es.flatMap fun e => (kept e.t).map fun u => e.v.add u 1).foldl putR [] := fun u hu =>
      k.all hl _ (.inr (List.mem_flatMap.2 ⟨e, he, List.mem_map.2 ⟨u, hu, rfl⟩⟩))
    by_cases h2 : (kept e.t).length < 2
    · exact hin u (he2.all h2 u hu)
    · obtain ⟨a, b, hab, hne⟩ := two_pair he2.nd (by have := he2.le; omega)
      have h3 := hin a (by rw [hab]; simp)
      have h4 := hin b (by rw [hab]; simp)
      exfalso
      generalize (es.flatMap fun e => (kept e.t).map fun u => e.v.add u 1).foldl putR [] = r at *
      match r, hl with
      | [], _ => simp at h3
      | [c], _ =>
        simp only [List.mem_singleton] at h3 h4
        exact hne (add_inj (h3.trans h4.symm))
def opensR (r : List V6) (v : V6) : Bool := r.any fun x => decide (v.add x 1 ≠ V6.zero)
theorem Two.opens {r : List V6} {P : V6 → Prop} (h : Two r P) (v : V6) : opensR r v = true ↔ ∃ x, P x ∧ v.add x 1 ≠ V6.zero := by
  unfold opensR
  rw [List.any_eq_true]
  constructor
  · rintro ⟨x, hx, h2⟩; exact ⟨x, h.mem x hx, of_decide_eq_true h2⟩
  · rintro ⟨x, hx, h2⟩
    by_cases hl : r.length < 2
    · exact ⟨x, h.all hl x hx, decide_eq_true h2⟩
    · obtain ⟨a, b, rfl, hne⟩ := two_pair h.nd (by have := h.le; omega)
      by_cases ha : v.add a 1 = V6.zero
      · exact ⟨b, by simp, decide_eq_true fun hb => hne (add_inj (ha.trans hb.symm))⟩
      · exact ⟨a, by simp, decide_eq_true ha⟩
end Go.Sx.Ch

/-
  Plain: the levels of package chain: what is kept of the products of the walks of a length (TopOneRoot).
-/
set_option linter.unusedVariables false
namespace Go.Sx.Ch
open Go.Sx.Sz

def wprod : List Ed → V6
  | [] => V6.zero
  | e :: l => e.v.add (wprod l) 1
theorem add_get (u v : V6) (k : Nat) (hk : k < 6) : (u.add v 1).get k = u.get k + v.get k := by
  obtain rfl | rfl | rfl | rfl | rfl | rfl : k = 0 ∨ k = 1 ∨ k = 2 ∨ k = 3 ∨ k = 4 ∨ k = 5 := by omega
  all_goals simp [V6.add, V6.of, V6.get]
theorem zero_get (k : Nat) : V6.zero.get k = 0 := by unfold V6.get V6.zero; split <;> rfl
theorem wprod_get : ∀ (l : List Ed) (k : Nat), k < 6 → (wprod l).get k = pr k l
  | [], k, _ => zero_get k
  | e :: l, k, hk => by
    rw [wprod, add_get _ _ _ hk, wprod_get l k hk]
    unfold pr
    rw [List.map_cons, List.sum_cons]
theorem get_zero {v : V6} (h : ∀ k, k < 6 → v.get k = 0) : v = V6.zero := by
  have h0 := h 0 (by omega); have h1 := h 1 (by omega); have h2 := h 2 (by omega); have h3 := h 3 (by omega); have h4 := h 4 (by omega); have h5 := h 5 (by omega)
  cases v
  simp only [V6.get] at h0 h1 h2 h3 h4 h5
  simp [V6.zero, h0, h1, h2, h3, h4, h5]
/-- An edge of the rows. -/
def edOf (rows : Nat → List Ed) (e : Ed) : Prop := e ∈ rows e.f
def lev (rows : Nat → List Ed) (g : Nat) : Nat → Nat → List V6
  | 0, n => if n = g then [V6.zero] else []
  | t + 1, n => ((rows n).flatMap fun e => (lev rows g t e.t).map fun u => e.v.add u 1).foldl putR []
/-- The products of the walks of a length from a note to the goal. -/
def pset (rows : Nat → List Ed) (g t n : Nat) (v : V6) : Prop := ∃ l, walk (edOf rows) n g l ∧ l.length = t ∧ wprod l = v
theorem lev_two {rows : Nat → List Ed} (hr : ∀ n, ∀ e ∈ rows n, e.f = n) (g : Nat) : ∀ (t n : Nat), Two (lev rows g t n) (pset rows g t n)
  | 0, n => by
    unfold lev
    by_cases h : n = g
    · rw [if_pos h]
      have hp : ∀ v, pset rows g 0 n v ↔ v = V6.zero := fun v => by
        constructor
        · rintro ⟨l, -, h2, rfl⟩
          rw [List.length_eq_zero_iff.1 h2]; rfl
        · rintro rfl; exact ⟨[], h, rfl, rfl⟩
      exact ⟨fun v hv => (hp v).2 (by simpa using hv), by simp, by simp, fun _ v hv => by rw [(hp v).1 hv]; simp⟩
    · rw [if_neg h]
      refine ⟨fun v hv => by simp at hv, List.nodup_nil, by simp, fun _ v hv => ?_⟩
      obtain ⟨l, h1, h2, -⟩ := hv
      rw [List.length_eq_zero_iff.1 h2] at h1
      exact absurd h1 h
  | t + 1, n => by
    unfold lev
    refine (Two.longer (kept := fun m => lev rows g t m) (P := fun m => pset rows g t m) (fun e _ => lev_two hr g t e.t)).congr fun v => ?_
    constructor
    · rintro ⟨e, he, u, ⟨l, h1, h2, rfl⟩, rfl⟩
      have hf := hr n e he
      exact ⟨e :: l, ⟨by unfold edOf; rw [hf]; exact he, hf, h1⟩, by rw [List.length_cons, h2], rfl⟩
    · rintro ⟨l, h1, h2, rfl⟩
      cases l with
      | nil => simp at h2
      | cons e l =>
        obtain ⟨h3, h4, h5⟩ := h1
        refine ⟨e, by unfold edOf at h3; rw [h4] at h3; exact h3, _, ⟨l, h5, by simpa using h2, rfl⟩, rfl⟩
theorem zero_add (v : V6) : V6.zero.add v 1 = v := by cases v; simp [V6.add, V6.of, V6.get, V6.zero]
/-- Where no level up to N is open at any note, all closed walks have the unison as their product. -/
theorem no_open {rows : Nat → List Ed} {N : Nat} (hr : ∀ n, ∀ e ∈ rows n, e.f = n) (hN : ∀ n, ∀ e ∈ rows n, n < N) (h : ∀ n t, t ≤ N → opensR (lev rows n t n) V6.zero = false) :
    ∀ (a : Nat) (l : List Ed), walk (edOf rows) a a l → wprod l = V6.zero := by
  have hs : ∀ a l, walk (edOf rows) a a l → l.length ≤ N → ∀ k, k < 6 → pr k l = 0 := fun a l hw hl k hk => by
    have h1 := h a l.length hl
    have h2 : ¬ ∃ x, pset rows a l.length a x ∧ V6.zero.add x 1 ≠ V6.zero := fun h3 => by
      rw [((lev_two hr a l.length a).opens V6.zero).2 h3] at h1; cases h1
    have h3 : wprod l = V6.zero := Classical.byContradiction fun hne => h2 ⟨_, ⟨l, hw, rfl, rfl⟩, by rw [zero_add]; exact hne⟩
    rw [← wprod_get l k hk, h3, zero_get]
  intro a l hw
  exact get_zero fun k hk => by
    rw [wprod_get l k hk]
    exact closed_zero (E := edOf rows) (N := N) (fun e he => hN e.f e he) hs l.length a l (Nat.le_refl _) hw k hk
end Go.Sx.Ch

/-
  Plain: the chain that package chain reads off the levels (TopOneRoot).
-/
set_option linter.unusedVariables false
namespace Go.Sx.Ch
open Go.Sx.Sz

def downR (rows : Nat → List Ed) (g : Nat) : Nat → Nat → V6 → List Ed
  | 0, _, _ => []
  | t + 1, n, v => match (rows n).find? (fun e => opensR (lev rows g t e.t) (v.add e.v 1)) with
    | some e => e :: downR rows g t e.t (v.add e.v 1)
    | none => downR rows g t n v
theorem add_assoc' (u v w : V6) : (u.add v 1).add w 1 = u.add (v.add w 1) 1 := by
  cases u; cases v; cases w
  simp only [V6.add, V6.of, V6.get, V6.mk.injEq]
  omega
theorem open_step {rows : Nat → List Ed} (hr : ∀ n, ∀ e ∈ rows n, e.f = n) {g t n : Nat} {v : V6} (h : opensR (lev rows g (t + 1) n) v = true) : ∃ e ∈ rows n, opensR (lev rows g t e.t) (v.add e.v 1) = true := by
  obtain ⟨x, ⟨l, h1, h2, rfl⟩, h3⟩ := ((lev_two hr g (t + 1) n).opens v).1 h
  cases l with
  | nil => simp at h2
  | cons e l =>
    obtain ⟨h4, h5, h6⟩ := h1
    refine ⟨e, by unfold edOf at h4; rw [h5] at h4; exact h4, ((lev_two hr g t e.t).opens _).2 ⟨_, ⟨l, h6, by simpa using h2, rfl⟩, ?_⟩⟩
    rw [add_assoc']
    exact h3
theorem open_end {rows : Nat → List Ed} {g n : Nat} {v : V6} (h : opensR (lev rows g 0 n) v = true) : n = g := by
  apply Classical.byContradiction
  intro hne
  unfold lev at h
  rw [if_neg hne] at h
  cases h
/-- The chain is closed, when it begins at the goal. -/
theorem down_walk {rows : Nat → List Ed} (hr : ∀ n, ∀ e ∈ rows n, e.f = n) (g : Nat) : ∀ (t n : Nat) (v : V6), opensR (lev rows g t n) v = true → walk (edOf rows) n g (downR rows g t n v) ∧ (downR rows g t n v).length = t
  | 0, n, v, h => ⟨open_end h, rfl⟩
  | t + 1, n, v, h => by
    unfold downR
    split
    · next e he =>
      have h1 := List.find?_some he
      have h2 := List.mem_of_find?_eq_some he
      have k := down_walk hr g t e.t _ h1
      have hf := hr n e h2
      exact ⟨⟨by unfold edOf; rw [hf]; exact h2, hf, k.1⟩, by rw [List.length_cons, k.2]⟩
    · next he =>
      obtain ⟨e, he1, he2⟩ := open_step hr h
      exact absurd he2 (by simpa using List.find?_eq_none.1 he e he1)
/-- The first level up to some that is open at the goal. -/
def firstR (rows : Nat → List Ed) (g most : Nat) : Option Nat := (List.range (most + 1)).find? fun t => opensR (lev rows g t g) V6.zero
theorem first_none {rows : Nat → List Ed} {g most : Nat} : firstR rows g most = none ↔ ∀ t, t ≤ most → opensR (lev rows g t g) V6.zero = false := by
  unfold firstR
  rw [List.find?_eq_none]
  constructor
  · intro h t ht
    have := h t (List.mem_range.2 (by omega))
    simpa using this
  · intro h t ht
    rw [h t (by have := List.mem_range.1 ht; omega)]
    simp
end Go.Sx.Ch

/-
  Plain: labels of notes that are joined (TopOneRoot).
-/
set_option linter.unusedVariables false
namespace Go.Sx.Ch

def lab (o : List Int) (i : Nat) : Int := o.getD i 0
def joinG (o : List Int) (a b : Nat) : List Int := o.map fun z => if z = max (lab o a) (lab o b) then min (lab o a) (lab o b) else z
theorem joinG_len (o : List Int) (a b : Nat) : (joinG o a b).length = o.length := by simp [joinG]
theorem joinG_at {o : List Int} {a b i : Nat} (hi : i < o.length) : lab (joinG o a b) i = if lab o i = max (lab o a) (lab o b) then min (lab o a) (lab o b) else lab o i := by
  unfold lab joinG
  rw [List.getD_eq_getElem?_getD, List.getElem?_map, List.getElem?_eq_getElem hi, List.getD_eq_getElem?_getD (l := o) (i := i), List.getElem?_eq_getElem hi]
  rfl
theorem joinG_keep {o : List Int} {a b i j : Nat} (hi : i < o.length) (hj : j < o.length) (h : lab o i = lab o j) : lab (joinG o a b) i = lab (joinG o a b) j := by
  rw [joinG_at hi, joinG_at hj, h]
theorem joinG_eq {o : List Int} {a b : Nat} (ha : a < o.length) (hb : b < o.length) : lab (joinG o a b) a = lab (joinG o a b) b := by
  rw [joinG_at ha, joinG_at hb]
  split <;> split <;> omega
def joinsG (ps : List (Nat × Nat)) (o : List Int) : List Int := ps.foldl (fun o p => joinG o p.1 p.2) o
theorem joinsG_len : ∀ (ps : List (Nat × Nat)) (o : List Int), (joinsG ps o).length = o.length
  | [], o => rfl
  | p :: ps, o => by
    rw [joinsG, List.foldl_cons]
    exact (joinsG_len ps _).trans (joinG_len _ _ _)
theorem joinsG_keep : ∀ (ps : List (Nat × Nat)) {o : List Int} {i j : Nat}, i < o.length → j < o.length → lab o i = lab o j → lab (joinsG ps o) i = lab (joinsG ps o) j
  | [], o, i, j, _, _, h => h
  | p :: ps, o, i, j, hi, hj, h => by
    rw [joinsG, List.foldl_cons]
    exact joinsG_keep ps (by rw [joinG_len]; exact hi) (by rw [joinG_len]; exact hj) (joinG_keep hi hj h)
/-- Notes that are joined have one label. -/
theorem joinsG_eq : ∀ (ps : List (Nat × Nat)) {o : List Int}, (∀ p ∈ ps, p.1 < o.length ∧ p.2 < o.length) → ∀ p ∈ ps, lab (joinsG ps o) p.1 = lab (joinsG ps o) p.2
  | [], o, _, p, h => by simp at h
  | q :: ps, o, hb, p, h => by
    rw [joinsG, List.foldl_cons]
    rcases List.mem_cons.1 h with rfl | h
    · have := hb p (by simp)
      exact joinsG_keep ps (by rw [joinG_len]; exact this.1) (by rw [joinG_len]; exact this.2) (joinG_eq this.1 this.2)
    · exact joinsG_eq ps (fun r hr => by rw [joinG_len]; exact hb r (by simp [hr])) p h
end Go.Sx.Ch

/-
  Plain: the graph of a score; without a closed chain, and with one root in each group, no pure pair is broken (TopOneRoot).
-/
set_option linter.unusedVariables false
namespace Go.Sx.Ch
open Go.Sx.Sz Go.Sx.Sc Go.Sx.Po

/-- The note to which a note is tied, or -1. -/
def befF (s : Sc) (n : Nat) : Int := if (s.N n).tied = true then aheadF s n else -1
def edgeTwo (a b : Nat) (k : Int) (v : V6) : List Ed := [⟨a, b, k, v⟩, ⟨b, a, k, v.times (-1)⟩]
def tieE (s : Sc) (n : Nat) : List Ed := if 0 ≤ befF s n then edgeTwo (befF s n).toNat n 1 V6.zero else []
def purE (p : Pr) : List Ed := if p.bound = 0 then edgeTwo p.a.toNat p.b.toNat 2 p.want else []
def edgesL (s : Sc) (k j : Nat) : List Ed := (List.range k).flatMap (tieE s) ++ (s.pairs.take j).flatMap purE
def allE (s : Sc) : List Ed := edgesL s s.notes.length s.pairs.length
def rowF (l : List Ed) (n : Nat) : List Ed := l.filter fun e => decide (e.f = n)
/-- Rows of a graph: those of the score, in some order. -/
def RowsOf (s : Sc) (rows : Nat → List Ed) : Prop := ∀ n, (rows n).Perm (rowF (allE s) n)

section
variable {s : Sc} (hs : ScOk s)
theorem bef_cases (n : Nat) : (s.N n).tied = true ∧ befF s n = aheadF s n ∨ (s.N n).tied = false ∧ befF s n = -1 := by
  unfold befF
  cases h : (s.N n).tied
  · exact .inr ⟨rfl, by rw [if_neg (by simp)]⟩
  · exact .inl ⟨rfl, by rw [if_pos rfl]⟩
include hs
theorem bef_lt {n : Nat} (hn : n < s.notes.length) : -1 ≤ befF s n ∧ befF s n < n := by
  rcases bef_cases (s := s) n with ⟨h, e⟩ | ⟨h, e⟩
  · obtain ⟨k, e2, hk, -⟩ := ahead_tie hs hn h
    rw [e, e2]; omega
  · rw [e]; omega
theorem allE_ok {e : Ed} (he : e ∈ allE s) : e.f < s.notes.length ∧ e.t < s.notes.length := by
  unfold allE edgesL at he
  rcases List.mem_append.1 he with h | h
  · obtain ⟨n, hn, h2⟩ := List.mem_flatMap.1 h
    have hn := List.mem_range.1 hn
    have hb := bef_lt hs hn
    unfold tieE at h2
    split at h2
    · unfold edgeTwo at h2
      rcases List.mem_cons.1 h2 with rfl | h2
      · exact ⟨by show (befF s n).toNat < _; omega, hn⟩
      · obtain rfl := List.mem_singleton.1 h2
        exact ⟨hn, by show (befF s n).toNat < _; omega⟩
    · simp at h2
  · obtain ⟨p, hp, h2⟩ := List.mem_flatMap.1 h
    have hp := pair_mem hs (List.mem_of_mem_take hp)
    unfold pairOk at hp
    unfold purE at h2
    split at h2
    · unfold edgeTwo at h2
      rcases List.mem_cons.1 h2 with rfl | h2
      · exact ⟨by show p.a.toNat < _; omega, by show p.b.toNat < _; omega⟩
      · obtain rfl := List.mem_singleton.1 h2
        exact ⟨by show p.b.toNat < _; omega, by show p.a.toNat < _; omega⟩
    · simp at h2
end
theorem mem_rows {s : Sc} {rows : Nat → List Ed} (hr : RowsOf s rows) {n : Nat} {e : Ed} : e ∈ rows n ↔ e ∈ allE s ∧ e.f = n := by
  rw [(hr n).mem_iff]
  unfold rowF
  rw [List.mem_filter, decide_eq_true_eq]
theorem rows_f {s : Sc} {rows : Nat → List Ed} (hr : RowsOf s rows) : ∀ n, ∀ e ∈ rows n, e.f = n := fun n e he => ((mem_rows hr).1 he).2
theorem rows_lt {s : Sc} (hs : ScOk s) {rows : Nat → List Ed} (hr : RowsOf s rows) : ∀ n, ∀ e ∈ rows n, n < s.notes.length := fun n e he => by
  obtain ⟨h1, h2⟩ := (mem_rows hr).1 he
  have := (allE_ok hs h1).1
  omega
theorem ed_of {s : Sc} {rows : Nat → List Ed} (hr : RowsOf s rows) {e : Ed} (he : e ∈ allE s) : edOf rows e := (mem_rows hr).2 ⟨he, rfl⟩
theorem pur_edge {s : Sc} {p : Pr} (hp : p ∈ s.pairs) (h0 : p.bound = 0) : ∀ e ∈ edgeTwo p.a.toNat p.b.toNat 2 p.want, e ∈ allE s := fun e he => by
  unfold allE edgesL
  refine List.mem_append_right _ (List.mem_flatMap.2 ⟨p, by rw [List.take_length]; exact hp, ?_⟩)
  unfold purE; rw [if_pos h0]; exact he
theorem tie_edge {s : Sc} {n : Nat} (hn : n < s.notes.length) (h0 : 0 ≤ befF s n) : ∀ e ∈ edgeTwo (befF s n).toNat n 1 V6.zero, e ∈ allE s := fun e he => by
  unfold allE edgesL
  refine List.mem_append_left _ (List.mem_flatMap.2 ⟨n, List.mem_range.2 hn, ?_⟩)
  unfold tieE; rw [if_pos h0]; exact he

/-! ### The steps of the graph and the parent steps -/
/-- What joins the notes: ties, and pairs with the bound 0. -/
def joinsL (s : Sc) (k j : Nat) : List (Nat × Nat) := ((List.range k).flatMap fun n => if 0 ≤ befF s n then [((befF s n).toNat, n)] else []) ++ (s.pairs.take j).flatMap fun p => if p.bound = 0 then [(p.a.toNat, p.b.toNat)] else []
def labL (s : Sc) : List Int := joinsG (joinsL s s.notes.length s.pairs.length) ((List.range s.notes.length).map fun (n : Nat) => (n : Int))
theorem labL_len (s : Sc) : (labL s).length = s.notes.length := by unfold labL; rw [joinsG_len]; simp
theorem joins_ok {s : Sc} (hs : ScOk s) : ∀ p ∈ joinsL s s.notes.length s.pairs.length, p.1 < s.notes.length ∧ p.2 < s.notes.length := fun p hp => by
  unfold joinsL at hp
  rcases List.mem_append.1 hp with h | h
  · obtain ⟨n, hn, h2⟩ := List.mem_flatMap.1 h
    have hn := List.mem_range.1 hn
    have hb := bef_lt hs hn
    split at h2
    · obtain rfl := List.mem_singleton.1 h2
      exact ⟨by show (befF s n).toNat < _; omega, hn⟩
    · simp at h2
  · obtain ⟨q, hq, h2⟩ := List.mem_flatMap.1 h
    have hq := pair_mem hs (List.mem_of_mem_take hq)
    unfold pairOk at hq
    split at h2
    · obtain rfl := List.mem_singleton.1 h2
      exact ⟨by show q.a.toNat < _; omega, by show q.b.toNat < _; omega⟩
    · simp at h2
theorem lab_join {s : Sc} (hs : ScOk s) {a b : Nat} (h : (a, b) ∈ joinsL s s.notes.length s.pairs.length) : lab (labL s) a = lab (labL s) b :=
  joinsG_eq _ (fun p hp => by have := joins_ok hs p hp; simpa using this) (a, b) h
theorem lab_tie {s : Sc} (hs : ScOk s) {n : Nat} (hn : n < s.notes.length) (h0 : 0 ≤ befF s n) : lab (labL s) (befF s n).toNat = lab (labL s) n :=
  lab_join hs (List.mem_append_left _ (List.mem_flatMap.2 ⟨n, List.mem_range.2 hn, by rw [if_pos h0]; simp⟩))
theorem lab_pur {s : Sc} (hs : ScOk s) {p : Pr} (hp : p ∈ s.pairs) (h0 : p.bound = 0) : lab (labL s) p.a.toNat = lab (labL s) p.b.toNat :=
  lab_join hs (List.mem_append_right _ (List.mem_flatMap.2 ⟨p, by rw [List.take_length]; exact hp, by rw [if_pos h0]; simp⟩))

/-- The step to a note that is no root. -/
theorem par_edge {s : Sc} (hs : ScOk s) {n : Nat} (hn : n < s.notes.length) (hk : (upF s n).k ≠ 3) :
    ∃ a : Nat, (upF s n).a = a ∧ a < n ∧ (∃ k, ∀ e ∈ edgeTwo a n k (wantF s n), e ∈ allE s) ∧ lab (labL s) a = lab (labL s) n := by
  have hu := up_lt hs hn
  by_cases ht : (s.N n).tied = true
  · have e1 : (upF s n).a = aheadF s n := by unfold upF; rw [if_pos ht]
    have e2 : befF s n = aheadF s n := by unfold befF; rw [if_pos ht]
    obtain ⟨k, e3, h3, -⟩ := ahead_tie hs hn ht
    have h0 : 0 ≤ befF s n := by rw [e2, e3]; omega
    have e4 : (befF s n).toNat = k := by rw [e2, e3]; omega
    have ew : wantF s n = V6.zero := by unfold wantF; rw [if_pos ht]
    refine ⟨k, by rw [e1, e3], h3, ⟨1, ?_⟩, ?_⟩
    · rw [ew, ← e4]; exact tie_edge hn h0
    · rw [← e4]; exact lab_tie hs hn h0
  · cases hp : purF s n with
    | none =>
      refine absurd ?_ hk
      unfold upF; rw [if_neg ht, hp]
    | some p =>
      have e1 : (upF s n).a = p.a := by unfold upF; rw [if_neg ht, hp]
      have ew : wantF s n = p.want := by unfold wantF; rw [if_neg ht, hp]
      obtain ⟨hm, hb, h0⟩ := pur_some hp
      have hq := pair_mem hs hm
      unfold pairOk at hq
      have e2 : p.b.toNat = n := by omega
      refine ⟨p.a.toNat, by omega, by omega, ⟨2, ?_⟩, ?_⟩
      · rw [ew, ← e2]; exact pur_edge hm h0
      · rw [← e2]; exact lab_pur hs hm h0
theorem wprod_app (l m : List Ed) : wprod (l ++ m) = (wprod l).add (wprod m) 1 := by
  induction l with
  | nil => rw [List.nil_append, wprod, zero_add]
  | cons e l ih => rw [List.cons_append, wprod, ih, wprod, add_assoc']
theorem add_zero' (v : V6) : v.add V6.zero 1 = v := by cases v; simp [V6.add, V6.of, V6.get, V6.zero]
theorem wprod_one (e : Ed) : wprod [e] = e.v := by rw [wprod, wprod, add_zero']
theorem walk_one {E : Ed → Prop} {e : Ed} (h : E e) : walk E e.f e.t [e] := ⟨h, rfl, rfl⟩
/-- Each tuned note hangs on a root, by a walk whose product is the difference of their pitches, and one back. -/
theorem root_walk {s : Sc} (hs : ScOk s) {rows : Nat → List Ed} (hr : RowsOf s rows) (h : List V6) {m : Nat} (hm : m ≤ s.notes.length) : ∀ (n : Nat), n < m →
    ∃ r, r < m ∧ (upF s r).k = 3 ∧ lab (labL s) r = lab (labL s) n ∧
      (∃ l, walk (edOf rows) r n l ∧ ∀ j, j < 6 → (wprod l).get j = (pAt (xsL s h m) n).get j - (pAt (xsL s h m) r).get j) ∧
      ∃ l, walk (edOf rows) n r l ∧ ∀ j, j < 6 → (wprod l).get j = (pAt (xsL s h m) r).get j - (pAt (xsL s h m) n).get j := by
  intro n
  induction n using Nat.strongRecOn with
  | ind n ih =>
    intro hn
    by_cases hk : (upF s n).k = 3
    · exact ⟨n, hn, hk, rfl, ⟨[], rfl, fun j hj => by rw [wprod, zero_get]; omega⟩, [], rfl, fun j hj => by rw [wprod, zero_get]; omega⟩
    · obtain ⟨a, ea, ha, ⟨k, he⟩, hl⟩ := par_edge hs (show n < s.notes.length by omega) hk
      obtain ⟨r, h1, h2, h3, ⟨l, h4, h5⟩, l', h6, h7⟩ := ih a ha (by omega)
      have hx := x_step hs h hn hm
      rw [ea] at hx
      have hp : prodF s h n = wantF s n := by unfold prodF; rw [if_neg hk]
      rw [hp] at hx
      have e1 := ed_of hr (he ⟨a, n, k, wantF s n⟩ (by simp [edgeTwo]))
      have e2 := ed_of hr (he ⟨n, a, k, (wantF s n).times (-1)⟩ (by simp [edgeTwo]))
      refine ⟨r, h1, h2, h3.trans hl, ⟨l ++ [⟨a, n, k, wantF s n⟩], walk_app.2 ⟨a, h4, walk_one e1⟩, fun j hj => ?_⟩, ⟨n, a, k, (wantF s n).times (-1)⟩ :: l', ⟨e2, rfl, h6⟩, fun j hj => ?_⟩
      · rw [wprod_app, wprod_one, add_get _ _ _ hj, h5 j hj, hx, add_get _ _ _ hj]
        show _ + (wantF s n).get j = _
        omega
      · rw [wprod, add_get _ _ _ hj, h7 j hj, hx, add_get _ _ _ hj]
        show ((wantF s n).times (-1)).get j + _ = _
        have : ((wantF s n).times (-1)).get j = (wantF s n).get j * (-1) := by unfold V6.times; rw [V6.get_of _ hj]
        omega
/-- The law: without a closed walk whose product is not the unison, and with no two roots in a group, a pure pair has what it wants. -/
theorem pure_whole {s : Sc} (hs : ScOk s) {rows : Nat → List Ed} (hr : RowsOf s rows) (hz : ∀ a l, walk (edOf rows) a a l → wprod l = V6.zero)
    (hroot : ∀ a b, a < s.notes.length → b < s.notes.length → (upF s a).k = 3 → (upF s b).k = 3 → lab (labL s) a = lab (labL s) b → a = b) (h : List V6) {m : Nat} (hm : m ≤ s.notes.length)
    {p : Pr} (hp : p ∈ s.pairs) (h0 : p.bound = 0) (hb : p.b < m) : excF (xsL s h m) p = V6.zero := by
  have hq := pair_mem hs hp
  unfold pairOk at hq
  obtain ⟨ra, a1, a2, a3, ⟨la, a4, a5⟩, -⟩ := root_walk hs hr h hm p.a.toNat (by omega)
  obtain ⟨rb, b1, b2, b3, -, lb, b4, b5⟩ := root_walk hs hr h hm p.b.toNat (by omega)
  have hl := lab_pur hs hp h0
  have hrr := hroot ra rb (by omega) (by omega) a2 b2 (by rw [a3, b3, hl])
  subst hrr
  have e1 := ed_of hr (pur_edge hp h0 ⟨p.a.toNat, p.b.toNat, 2, p.want⟩ (by simp [edgeTwo]))
  have hw := hz ra (la ++ (⟨p.a.toNat, p.b.toNat, 2, p.want⟩ :: lb)) (walk_app.2 ⟨_, a4, e1, rfl, b4⟩)
  refine get_zero fun j hj => ?_
  have hj0 : (wprod (la ++ (⟨p.a.toNat, p.b.toNat, 2, p.want⟩ :: lb))).get j = 0 := by rw [hw, zero_get]
  rw [wprod_app, add_get _ _ _ hj, wprod, add_get _ _ _ hj, a5 j hj, b5 j hj] at hj0
  replace hj0 : (pAt (xsL s h m) (p.a.toNat : Nat)).get j - (pAt (xsL s h m) (ra : Nat)).get j + (p.want.get j + ((pAt (xsL s h m) (ra : Nat)).get j - (pAt (xsL s h m) (p.b.toNat : Nat)).get j)) = 0 := hj0
  unfold excF
  rw [V6.add_get _ _ _ hj, V6.add_get _ _ _ hj]
  rw [show ((p.a.toNat : Nat) : Int) = p.a by omega, show ((p.b.toNat : Nat) : Int) = p.b by omega] at hj0
  omega
end Go.Sx.Ch

/-
  Plain: what package chain's Shortest returns (TopOneRoot).
-/
set_option linter.unusedVariables false
namespace Go.Sx.Ch
open Go.Sx.Sz Go.Sx.Sc Go.Sx.Po

def Ed.st (e : Ed) : St := ⟨e.f, e.t, e.k⟩
def thrR (rows : Nat → List Ed) (g most : Nat) : List Ed := match firstR rows g most with
  | some t => downR rows g t g V6.zero
  | none => []
/-- One note more: the best chain so far, and how long the next one may be. -/
def bestS (rows : Nat → List Ed) (q : List Ed × Nat) (n : Nat) : List Ed × Nat := if thrR rows n q.2 = [] then q else (thrR rows n q.2, (thrR rows n q.2).length - 1)
def shortR (rows : Nat → List Ed) (N : Nat) : List Ed × Nat := (List.range N).foldl (bestS rows) ([], N)
def prodR (rows : Nat → List Ed) (N : Nat) : List St → Int → V6 → Option V6
  | [], _, v => some v
  | x :: l, last, v => if x.a ≠ last ∨ x.a < 0 ∨ (N : Int) ≤ x.a then none else match (rows x.a.toNat).find? (fun e => decide (e.st = x)) with
    | none => none
    | some e => prodR rows N l x.b (v.add e.v 1)
def lastB (l : List St) : Int := (l.getD (l.length - 1) default).b

theorem opens_zero : opensR [V6.zero] V6.zero = false := by decide
theorem lev_zero (rows : Nat → List Ed) (g : Nat) : opensR (lev rows g 0 g) V6.zero = false := by
  unfold lev; rw [if_pos rfl]; exact opens_zero
theorem first_pos {rows : Nat → List Ed} {g most t : Nat} (h : firstR rows g most = some t) : 0 < t ∧ t ≤ most ∧ opensR (lev rows g t g) V6.zero = true := by
  unfold firstR at h
  have h1 := List.find?_some h
  have h2 := List.mem_range.1 (List.mem_of_find?_eq_some h)
  refine ⟨?_, by omega, h1⟩
  rcases Nat.eq_zero_or_pos t with e | e
  · subst e; rw [lev_zero] at h1; cases h1
  · exact e
/-- What 'through' finds is closed, and its edges are there. -/
theorem thr_walk {rows : Nat → List Ed} (hr : ∀ n, ∀ e ∈ rows n, e.f = n) {g most : Nat} : walk (edOf rows) g g (thrR rows g most) ∧ (thrR rows g most).length ≤ most ∧ (thrR rows g most = [] ↔ firstR rows g most = none) := by
  unfold thrR
  split
  · next t h =>
    obtain ⟨h1, h2, h3⟩ := first_pos h
    obtain ⟨h4, h5⟩ := down_walk hr g t g V6.zero h3
    refine ⟨h4, by omega, ⟨fun e => ?_, fun e => by rw [h] at e; cases e⟩⟩
    rw [e] at h5; simp at h5; omega
  · next h => exact ⟨rfl, by simp, ⟨fun _ => h, fun _ => rfl⟩⟩
theorem best_keep {rows : Nat → List Ed} : ∀ (l : List Nat) (q : List Ed × Nat), (l.foldl (bestS rows) q).1 = [] → (l.foldl (bestS rows) q) = q ∧ ∀ n ∈ l, thrR rows n q.2 = []
  | [], q, h => ⟨rfl, fun n hn => by simp at hn⟩
  | n :: l, q, h => by
    rw [List.foldl_cons] at h ⊢
    obtain ⟨h1, h2⟩ := best_keep l _ h
    by_cases e : thrR rows n q.2 = []
    · have hb : bestS rows q n = q := by unfold bestS; rw [if_pos e]
      rw [hb] at h1 h2 ⊢
      exact ⟨h1, fun m hm => by
        rcases List.mem_cons.1 hm with rfl | hm
        · exact e
        · exact h2 m hm⟩
    · rw [h1] at h
      unfold bestS at h
      rw [if_neg e] at h
      exact absurd h e
/-- No chain: no closed walk has a product. -/
theorem short_none {s : Sc} (hs : ScOk s) {rows : Nat → List Ed} (hr : RowsOf s rows) (h : (shortR rows s.notes.length).1 = []) : ∀ a l, walk (edOf rows) a a l → wprod l = V6.zero := by
  have hf := rows_f hr
  have hl := rows_lt hs hr
  refine no_open (N := s.notes.length) hf hl fun n t ht => ?_
  by_cases hn : n < s.notes.length
  · have := (best_keep (rows := rows) (List.range s.notes.length) ([], s.notes.length) h).2 n (List.mem_range.2 hn)
    exact first_none.1 ((thr_walk hf).2.2.1 this) t ht
  · have h0 : rows n = [] := List.eq_nil_iff_forall_not_mem.2 fun e he => hn (hl n e he)
    cases t with
    | zero => exact lev_zero rows n
    | succ t =>
      unfold lev
      rw [h0]; rfl
theorem best_walk {rows : Nat → List Ed} (hr : ∀ n, ∀ e ∈ rows n, e.f = n) : ∀ (l : List Nat) (q : List Ed × Nat), (∃ a, walk (edOf rows) a a q.1) → ∃ a, walk (edOf rows) a a (l.foldl (bestS rows) q).1
  | [], q, h => h
  | n :: l, q, h => by
    rw [List.foldl_cons]
    refine best_walk hr l _ ?_
    unfold bestS
    split
    · exact h
    · exact ⟨n, (thr_walk hr).1⟩
theorem prod_ok {rows : Nat → List Ed} {N : Nat} (hN : ∀ n, ∀ e ∈ rows n, n < N) : ∀ (l : List Ed) (a b : Nat) (v : V6), walk (edOf rows) a b l → ∃ u, prodR rows N (l.map Ed.st) a v = some u
  | [], a, b, v, _ => ⟨v, rfl⟩
  | e :: l, a, b, v, h => by
    obtain ⟨h1, h2, h3⟩ := h
    have hlt := hN _ e h1
    rw [List.map_cons, prodR, if_neg (by simp only [Ed.st]; omega)]
    cases hf : (rows (Ed.st e).a.toNat).find? (fun x => decide (x.st = e.st)) with
    | none =>
      have := List.find?_eq_none.1 hf e (by simpa [Ed.st, edOf] using h1)
      simp at this
    | some x => exact prod_ok hN l e.t b _ h3
theorem last_walk {E : Ed → Prop} : ∀ (l : List Ed) (a b : Nat), l ≠ [] → walk E a b l → lastB (l.map Ed.st) = b
  | [], a, b, h, _ => absurd rfl h
  | [e], a, b, _, h => by
    obtain ⟨-, -, h⟩ := h
    rw [← show e.t = b from h]; rfl
  | e :: e' :: l, a, b, _, h => by
    have := last_walk (e' :: l) e.t b (by simp) h.2.2
    rw [← this]
    unfold lastB
    simp
/-- Rows that are sorted, all notes different. -/
theorem row_one {l m : List Ed} (hp : l.Perm m) (hl : l.Pairwise fun a b => a.t ≤ b.t) (hm : m.Pairwise fun a b => a.t < b.t) : l = m := by
  refine List.Perm.eq_of_pairwise (le := fun a b : Ed => a.t ≤ b.t) (fun a b ha hb h1 h2 => ?_) hl (hm.imp fun h => Nat.le_of_lt h) hp
  have ha' := hp.mem_iff.1 ha
  have he : a.t = b.t := Nat.le_antisymm h1 h2
  obtain ⟨i, hi, rfl⟩ := List.getElem_of_mem ha'
  obtain ⟨j, hj, rfl⟩ := List.getElem_of_mem hb
  have hpw := List.pairwise_iff_getElem.1 hm
  rcases Nat.lt_trichotomy i j with h | h | h
  · have := hpw i j hi hj h; omega
  · subst h; rfl
  · have := hpw j i hj hi h; omega
end Go.Sx.Ch

/-
  Plain: one level more, as package chain makes it (TopOneRoot).
-/
set_option linter.unusedVariables false
namespace Go.Sx.Ch
open Go.Sx.Sz Go.Sx.Sc Go.Sx.Po

def foldE (ls : List (List V6)) (es : List Ed) (r : List V6) : List V6 := es.foldl (fun r e => ((ls.getD e.t []).map fun u => e.v.add u 1).foldl putR r) r
def stepL (rows : Nat → List Ed) (ls : List (List V6)) (n : Nat) : List V6 := foldE ls (rows n) []
def outsL (rows : Nat → List Ed) (ls : List (List V6)) (N k : Nat) : List (List V6) := (List.range N).map fun i => if i < k then stepL rows ls i else []
def lngL (rows : Nat → List Ed) (ls : List (List V6)) (N : Nat) : List (List V6) := (List.range N).map (stepL rows ls)
theorem outs_len (rows : Nat → List Ed) (ls : List (List V6)) (N k : Nat) : (outsL rows ls N k).length = N := by simp [outsL]
theorem outs_end (rows : Nat → List Ed) (ls : List (List V6)) (N : Nat) : outsL rows ls N N = lngL rows ls N := by
  unfold outsL lngL
  exact List.map_congr_left fun i hi => if_pos (List.mem_range.1 hi)
theorem outs_zero (rows : Nat → List Ed) (ls : List (List V6)) (N : Nat) : outsL rows ls N 0 = List.replicate N [] := by
  unfold outsL
  rw [List.eq_replicate_iff]
  refine ⟨by simp, fun x hx => ?_⟩
  obtain ⟨i, -, rfl⟩ := List.mem_map.1 hx
  exact if_neg (Nat.not_lt_zero _)
theorem outs_set (rows : Nat → List Ed) (ls : List (List V6)) (N k : Nat) (hk : k < N) : (outsL rows ls N k).set k (stepL rows ls k) = outsL rows ls N (k + 1) := by
  apply List.ext_getElem (by simp [outsL])
  intro i h1 h2
  rw [List.getElem_set]
  by_cases e : k = i
  · subst e; rw [if_pos rfl]; simp [outsL]
  · rw [if_neg e]
    simp only [outsL, List.getElem_map, List.getElem_range]
    by_cases h : i < k
    · rw [if_pos h, if_pos (by omega)]
    · rw [if_neg h, if_neg (by omega)]
theorem outs_at (rows : Nat → List Ed) (ls : List (List V6)) (N k : Nat) (hk : k < N) (h : k < (outsL rows ls N k).length) : (outsL rows ls N k)[k] = [] := by
  simp [outsL]
theorem outs_nil (rows : Nat → List Ed) (ls : List (List V6)) (N k : Nat) (hk : k < N) : (outsL rows ls N k).set k (foldE ls ((rows k).take 0) []) = outsL rows ls N k := by
  have h : k < (outsL rows ls N k).length := by rw [outs_len]; exact hk
  have e : foldE ls ((rows k).take 0) [] = (outsL rows ls N k)[k] := by rw [outs_at rows ls N k hk h, List.take_zero]; rfl
  rw [e, List.set_getElem_self]
theorem outs_done (rows : Nat → List Ed) (ls : List (List V6)) (N k : Nat) (hk : k < N) : (outsL rows ls N k).set k (foldE ls ((rows k).take (rows k).length) []) = outsL rows ls N (k + 1) := by
  rw [List.take_length]; exact outs_set rows ls N k hk
def putsR (e : Ed) (l : List V6) (m : Nat) (r : List V6) : List V6 := ((l.take m).map fun u => e.v.add u 1).foldl putR r
theorem putsR_zero (e : Ed) (l : List V6) (r : List V6) : putsR e l 0 r = r := by unfold putsR; rw [List.take_zero]; rfl
theorem putsR_succ (e : Ed) (l : List V6) {m : Nat} (hm : m < l.length) (r : List V6) : putsR e l (m + 1) r = putR (putsR e l m r) (e.v.add l[m] 1) := by
  unfold putsR
  rw [List.take_succ_eq_append_getElem hm, List.map_append, List.foldl_append]; rfl
theorem putR_len {r : List V6} (h : r.length ≤ 2) (v : V6) : (putR r v).length ≤ 2 := by
  unfold putR; split
  · rw [List.length_append]; simp; omega
  · exact h
theorem puts_len : ∀ (l : List V6) {r : List V6}, r.length ≤ 2 → (l.foldl putR r).length ≤ 2
  | [], r, h => h
  | v :: l, r, h => puts_len l (putR_len h v)
theorem foldE_len (ls : List (List V6)) : ∀ (es : List Ed) {r : List V6}, r.length ≤ 2 → (foldE ls es r).length ≤ 2
  | [], r, h => h
  | e :: es, r, h => foldE_len ls es (puts_len _ h)
theorem foldE_snoc (ls : List (List V6)) (es : List Ed) (e : Ed) (r : List V6) : foldE ls (es ++ [e]) r = ((ls.getD e.t []).map fun u => e.v.add u 1).foldl putR (foldE ls es r) := by
  unfold foldE; rw [List.foldl_append]; rfl
theorem putsR_len (e : Ed) (l : List V6) (m : Nat) {r : List V6} (h : r.length ≤ 2) : (putsR e l m r).length ≤ 2 := puts_len _ h
theorem fold_next {rows : Nat → List Ed} {ls : List (List V6)} {k j : Nat} (hj : j < (rows k).length) {p : Ed} (hp : (rows k)[j] = p) {l : List V6} (hl : ls.getD p.t [] = l) : putsR p l l.length (foldE ls ((rows k).take j) []) = foldE ls ((rows k).take (j + 1)) [] := by
  rw [List.take_succ_eq_append_getElem hj, hp, foldE_snoc, hl]
  unfold putsR; rw [List.take_length]
theorem fold_flat {α : Type} (g : α → List V6) : ∀ (es : List α) (r : List V6), (es.flatMap g).foldl putR r = es.foldl (fun r e => (g e).foldl putR r) r
  | [], r => rfl
  | e :: es, r => by rw [List.flatMap_cons, List.foldl_append, List.foldl_cons, fold_flat g es]
/-- The kept values of a length. -/
def levL (rows : Nat → List Ed) (N g t : Nat) : List (List V6) := (List.range N).map (lev rows g t)
theorem levL_len (rows : Nat → List Ed) (N g t : Nat) : (levL rows N g t).length = N := by simp [levL]
theorem levL_at {rows : Nat → List Ed} {N g t n : Nat} (hn : n < N) : (levL rows N g t).getD n [] = lev rows g t n := by
  unfold levL
  rw [List.getD_eq_getElem?_getD, List.getElem?_map, List.getElem?_range hn]; rfl
theorem levL_get {rows : Nat → List Ed} {N g t n : Nat} (hn : n < N) (h : n < (levL rows N g t).length) : (levL rows N g t)[n] = lev rows g t n := by
  simp [levL]
theorem lng_lev {rows : Nat → List Ed} {N g t : Nat} (hE : ∀ n, ∀ e ∈ rows n, e.t < N) : lngL rows (levL rows N g t) N = levL rows N g (t + 1) := by
  unfold lngL
  rw [levL]
  refine List.map_congr_left fun n hn => ?_
  unfold stepL foldE
  rw [lev, fold_flat]
  have : ∀ (es : List Ed) (r : List V6), (∀ e ∈ es, e.t < N) → es.foldl (fun r e => (((levL rows N g t).getD e.t []).map fun u => e.v.add u 1).foldl putR r) r = es.foldl (fun r e => ((lev rows g t e.t).map fun u => e.v.add u 1).foldl putR r) r := by
    intro es
    induction es with
    | nil => intro r _; rfl
    | cons e es ih =>
      intro r h
      rw [List.foldl_cons, List.foldl_cons, levL_at (h e (by simp))]
      exact ih _ fun x hx => h x (by simp [hx])
  exact this _ _ (hE n)
/-- The level at the start: nothing but the unison at the goal. -/
theorem lev_start (rows : Nat → List Ed) {N g : Nat} (hg : g < N) : (List.replicate N ([] : List V6)).set g [V6.zero] = levL rows N g 0 := by
  apply List.ext_getElem (by simp [levL])
  intro i h1 h2
  rw [List.getElem_set]
  simp only [levL, List.getElem_map, List.getElem_range, List.getElem_replicate]
  unfold lev
  by_cases e : g = i
  · rw [if_pos e, if_pos e.symm]
  · rw [if_neg e, if_neg (fun h => e h.symm)]
end Go.Sx.Ch
namespace Go.Sx.Ch
open Go.Sx.Sz Go.Sx.Sc Go.Sx.Po
theorem first_at {rows : Nat → List Ed} {g most t : Nat} (ht : t ≤ most) (ho : opensR (lev rows g t g) V6.zero = true) (hn : ∀ i, i < t → opensR (lev rows g i g) V6.zero = false) : firstR rows g most = some t := by
  unfold firstR
  rw [List.find?_eq_some_iff_getElem]
  refine ⟨ho, t, by simp; omega, by simp, fun j hj => ?_⟩
  simp only [List.getElem_range]
  rw [hn j hj]; rfl
theorem thr_some {rows : Nat → List Ed} {g most t : Nat} (h : firstR rows g most = some t) : thrR rows g most = downR rows g t g V6.zero := by unfold thrR; rw [h]
theorem thr_none {rows : Nat → List Ed} {g most : Nat} (h : firstR rows g most = none) : thrR rows g most = [] := by unfold thrR; rw [h]
theorem sml_wprod {E : Ed → Prop} (hE : ∀ e, E e → Sml 16 e.v) : ∀ (l : List Ed) (a b : Nat), walk E a b l → Sml (16 * l.length) (wprod l)
  | [], _, _, _ => Sml.zero (by simp)
  | e :: l, a, b, h => by
    have h1 := sml_wprod hE l e.t b h.2.2
    have h2 := (hE e h.1).add h1 (.inl rfl)
    rw [wprod]
    refine h2.mono ?_
    rw [List.length_cons]; omega
theorem sml_lev {rows : Nat → List Ed} (hr : ∀ n, ∀ e ∈ rows n, e.f = n) (hS : ∀ n, ∀ e ∈ rows n, Sml 16 e.v) {g t n : Nat} {u : V6} (hu : u ∈ lev rows g t n) : Sml (16 * t) u := by
  obtain ⟨l, h1, h2, rfl⟩ := (lev_two hr g t n).mem u hu
  have := sml_wprod (E := edOf rows) (fun e he => hS e.f e he) l n g h1
  rwa [h2] at this
theorem lev_le {rows : Nat → List Ed} (hr : ∀ n, ∀ e ∈ rows n, e.f = n) {g t n : Nat} : (lev rows g t n).length ≤ 2 := (lev_two hr g t n).le
theorem levL_ok {rows : Nat → List Ed} (hr : ∀ n, ∀ e ∈ rows n, e.f = n) (hS : ∀ n, ∀ e ∈ rows n, Sml 16 e.v) {N g t : Nat} (ht : t ≤ 50000) : ∀ l ∈ levL rows N g t, l.length ≤ 2 ∧ ∀ u ∈ l, Sml 900000 u := fun l hl => by
  unfold levL at hl
  obtain ⟨n, -, rfl⟩ := List.mem_map.1 hl
  exact ⟨lev_le hr, fun u hu => (sml_lev hr hS hu).mono (by omega)⟩
/-- One level down: an edge is found, or not. -/
theorem down_some {rows : Nat → List Ed} {g t n : Nat} {v : V6} {j : Nat} (hj : j < (rows n).length) (hno : ∀ i (h : i < (rows n).length), i < j → opensR (lev rows g t (rows n)[i].t) (v.add (rows n)[i].v 1) = false) (ho : opensR (lev rows g t (rows n)[j].t) (v.add (rows n)[j].v 1) = true) :
    downR rows g (t + 1) n v = (rows n)[j] :: downR rows g t (rows n)[j].t (v.add (rows n)[j].v 1) := by
  have hf : (rows n).find? (fun e => opensR (lev rows g t e.t) (v.add e.v 1)) = some (rows n)[j] := by
    rw [List.find?_eq_some_iff_getElem]
    exact ⟨ho, j, hj, rfl, fun i hi => by simp [hno i (by omega) hi]⟩
  rw [downR, hf]
theorem down_none {rows : Nat → List Ed} {g t n : Nat} {v : V6} (hno : ∀ i (h : i < (rows n).length), opensR (lev rows g t (rows n)[i].t) (v.add (rows n)[i].v 1) = false) : downR rows g (t + 1) n v = downR rows g t n v := by
  have hf : (rows n).find? (fun e => opensR (lev rows g t e.t) (v.add e.v 1)) = none := by
    rw [List.find?_eq_none]
    intro e he
    obtain ⟨i, hi, rfl⟩ := List.getElem_of_mem he
    simp [hno i hi]
  rw [downR, hf]
end Go.Sx.Ch

/-
  Plain: the edges of a score, one by one (TopOneRoot).
-/
set_option linter.unusedVariables false
namespace Go.Sx.Ch
open Go.Sx.Sz Go.Sx.Sc Go.Sx.Po
def addF (rows : Nat → List Ed) (i : Nat) (e : Ed) : Nat → List Ed := fun n => if n = i then rows n ++ [e] else rows n
theorem rowF_snoc (l : List Ed) (e : Ed) : rowF (l ++ [e]) = addF (rowF l) e.f e := by
  funext n
  unfold rowF addF
  rw [List.filter_append, List.filter_cons, List.filter_nil]
  by_cases h : e.f = n
  · rw [decide_eq_true h, if_pos rfl, if_pos h.symm]
  · rw [decide_eq_false h, if_neg (by simp), if_neg (fun h' => h h'.symm), List.append_nil]
theorem rowF_two (l : List Ed) (a b : Nat) (k : Int) (v : V6) : rowF (l ++ edgeTwo a b k v) = addF (addF (rowF l) a ⟨a, b, k, v⟩) b ⟨b, a, k, v.times (-1)⟩ := by
  rw [edgeTwo, show l ++ [(⟨a, b, k, v⟩ : Ed), ⟨b, a, k, v.times (-1)⟩] = (l ++ [⟨a, b, k, v⟩]) ++ [⟨b, a, k, v.times (-1)⟩] by simp, rowF_snoc, rowF_snoc]
theorem edges_zero (s : Sc) : edgesL s 0 0 = [] := by simp [edgesL]
theorem edges_note (s : Sc) (k : Nat) : edgesL s (k + 1) 0 = edgesL s k 0 ++ tieE s k := by
  simp [edgesL, List.range_succ, List.flatMap_append]
theorem edges_pair (s : Sc) (k : Nat) {j : Nat} (hj : j < s.pairs.length) : edgesL s k (j + 1) = edgesL s k j ++ purE (s.P j) := by
  unfold edgesL
  rw [List.take_succ_eq_append_getElem hj, List.flatMap_append, ← Sc.P_eq hj]
  simp
theorem tieE_len (s : Sc) (n : Nat) : (tieE s n).length ≤ 2 := by unfold tieE edgeTwo; split <;> simp
theorem purE_len (p : Pr) : (purE p).length ≤ 2 := by unfold purE edgeTwo; split <;> simp
theorem flat_len {α : Type} (f : α → List Ed) (hf : ∀ x, (f x).length ≤ 2) : ∀ (l : List α), (l.flatMap f).length ≤ 2 * l.length
  | [] => by simp
  | x :: l => by
    have := flat_len f hf l
    have := hf x
    rw [List.flatMap_cons, List.length_append, List.length_cons]; omega
theorem edges_len (s : Sc) (k j : Nat) : (edgesL s k j).length ≤ 2 * k + 2 * j := by
  unfold edgesL
  rw [List.length_append]
  have h1 := flat_len (tieE s) (tieE_len s) (List.range k)
  have h2 := flat_len purE purE_len (s.pairs.take j)
  rw [List.length_range] at h1
  rw [List.length_take] at h2
  omega
theorem rowF_len (l : List Ed) (n : Nat) : (rowF l n).length ≤ l.length := List.length_filter_le _ _
theorem sml_want' {s : Sc} (hs : ScOk s) {p : Pr} (hp : p ∈ s.pairs) : Sml 16 p.want := by
  have h := pair_mem hs hp
  unfold pairOk at h
  exact Sml.of h.2.2.1
theorem sml_neg {v : V6} {M : Int} (h : Sml M v) : Sml M (v.times (-1)) := fun k hk => by
  have := h k hk
  rw [V6.times, V6.get_of _ hk]; omega
theorem sml_all {s : Sc} (hs : ScOk s) {e : Ed} (he : e ∈ allE s) : Sml 16 e.v := by
  unfold allE edgesL at he
  rcases List.mem_append.1 he with h | h
  · obtain ⟨n, -, h2⟩ := List.mem_flatMap.1 h
    unfold tieE at h2
    split at h2
    · unfold edgeTwo at h2
      rcases List.mem_cons.1 h2 with rfl | h2
      · exact Sml.zero (by omega)
      · obtain rfl := List.mem_singleton.1 h2
        exact sml_neg (Sml.zero (by omega))
    · simp at h2
  · obtain ⟨p, hp, h2⟩ := List.mem_flatMap.1 h
    have hw := sml_want' hs (List.mem_of_mem_take hp)
    unfold purE at h2
    split at h2
    · unfold edgeTwo at h2
      rcases List.mem_cons.1 h2 with rfl | h2
      · exact hw
      · obtain rfl := List.mem_singleton.1 h2
        exact sml_neg hw
    · simp at h2
theorem bef_R {s : Sc} (hb : scB s = true) {n : Nat} (hn : n < s.notes.length) : befR s n = (befF s n, 0) := by
  unfold befR befF aheadF
  rw [if_pos ⟨hb, by omega, by omega⟩, Int.toNat_natCast]
/-- What the rows are good for. -/
theorem rows_t {s : Sc} (hs : ScOk s) {rows : Nat → List Ed} (hr : RowsOf s rows) : ∀ n, ∀ e ∈ rows n, e.t < s.notes.length := fun n e he => (allE_ok hs ((mem_rows hr).1 he).1).2
theorem rows_sml {s : Sc} (hs : ScOk s) {rows : Nat → List Ed} (hr : RowsOf s rows) : ∀ n, ∀ e ∈ rows n, Sml 16 e.v := fun n e he => sml_all hs ((mem_rows hr).1 he).1
end Go.Sx.Ch

/-
  Plain: the labels of groups, one join after the other (TopOneRoot).
-/
set_option linter.unusedVariables false
namespace Go.Sx.Ch
open Go.Sx.Sz Go.Sx.Sc Go.Sx.Po
def lab0 (N : Nat) : List Int := (List.range N).map fun (n : Nat) => (n : Int)
theorem joinsG_snoc (l : List (Nat × Nat)) (a b : Nat) (o : List Int) : joinsG (l ++ [(a, b)]) o = joinG (joinsG l o) a b := by
  unfold joinsG; rw [List.foldl_append]; rfl
theorem joins_zero (s : Sc) (o : List Int) : joinsG (joinsL s 0 0) o = o := by simp [joinsL, joinsG]
theorem joins_note (s : Sc) (k : Nat) : joinsL s (k + 1) 0 = joinsL s k 0 ++ (if 0 ≤ befF s k then [((befF s k).toNat, k)] else []) := by
  simp [joinsL, List.range_succ, List.flatMap_append]
theorem joins_pair (s : Sc) (k : Nat) {j : Nat} (hj : j < s.pairs.length) : joinsL s k (j + 1) = joinsL s k j ++ (if (s.P j).bound = 0 then [((s.P j).a.toNat, (s.P j).b.toNat)] else []) := by
  unfold joinsL
  rw [List.take_succ_eq_append_getElem hj, List.flatMap_append, ← Sc.P_eq hj]
  simp
theorem lab0_len (N : Nat) : (lab0 N).length = N := by simp [lab0]
/-- The first k labels changed. -/
def joinK (o : List Int) (mx mn : Int) (k : Nat) : List Int := ((o.take k).map fun z => if z = mx then mn else z) ++ o.drop k
theorem joinK_zero (o : List Int) (mx mn : Int) : joinK o mx mn 0 = o := by simp [joinK]
theorem joinK_end (o : List Int) (a b : Nat) : joinK o (max (lab o a) (lab o b)) (min (lab o a) (lab o b)) o.length = joinG o a b := by simp [joinK, joinG]
theorem joinK_len (o : List Int) (mx mn : Int) {k : Nat} (hk : k ≤ o.length) : (joinK o mx mn k).length = o.length := by
  unfold joinK; rw [List.length_append, List.length_map, List.length_take, List.length_drop]; omega
theorem joinK_at (o : List Int) (mx mn : Int) {k : Nat} (hk : k < o.length) (h : k < (joinK o mx mn k).length) : (joinK o mx mn k)[k] = o[k] := by
  simp only [joinK]
  rw [List.getElem_append_right (by simp; omega)]
  simp only [List.getElem_drop, List.length_map, List.length_take]
  congr 1; omega
theorem joinK_succ (o : List Int) (mx mn : Int) {k : Nat} (hk : k < o.length) : joinK o mx mn (k + 1) = (joinK o mx mn k).set k (if o[k] = mx then mn else o[k]) := by
  unfold joinK
  have hd := List.drop_eq_getElem_cons hk
  rw [List.take_succ_eq_append_getElem hk, List.map_append, List.set_append]
  have h1 : ((o.take k).map fun z => if z = mx then mn else z).length = k := by simp; omega
  rw [if_neg (by omega), h1, Nat.sub_self, List.append_assoc]
  congr 1
  rw [hd]; rfl
theorem joinK_stay (o : List Int) (mx mn : Int) {k : Nat} (hk : k < o.length) (hne : o[k] ≠ mx) : joinK o mx mn (k + 1) = joinK o mx mn k := by
  have hl : k < (joinK o mx mn k).length := by rw [joinK_len o mx mn (by omega)]; exact hk
  rw [joinK_succ o mx mn hk, if_neg hne, ← joinK_at o mx mn hk hl, List.set_getElem_self]
theorem lab0_set (N k : Nat) (hk : k < N) (z : List Int) (hz : z = (List.range k).map (fun (n : Nat) => (n : Int)) ++ List.replicate (N - k) 0) : z.set k (k : Int) = (List.range (k + 1)).map (fun (n : Nat) => (n : Int)) ++ List.replicate (N - (k + 1)) 0 := by
  subst hz
  rw [List.set_append, if_neg (by simp), show N - k = (N - (k + 1)) + 1 by omega, List.replicate_succ, List.range_succ, List.map_append]
  simp
theorem lab_range {s : Sc} : ∀ (ps : List (Nat × Nat)) (o : List Int) (N : Nat), (∀ p ∈ ps, p.1 < o.length ∧ p.2 < o.length) → (∀ z ∈ o, 0 ≤ z ∧ z < N) → ∀ z ∈ joinsG ps o, 0 ≤ z ∧ z < N
  | [], o, N, _, h => h
  | p :: ps, o, N, hp, h => by
    rw [joinsG, List.foldl_cons]
    refine lab_range (s := s) ps _ N (fun q hq => by rw [joinG_len]; exact hp q (by simp [hq])) fun z hz => ?_
    unfold joinG at hz
    obtain ⟨y, hy, rfl⟩ := List.mem_map.1 hz
    have hl : ∀ i, i < o.length → 0 ≤ lab o i ∧ lab o i < N := fun i hi => by
      unfold lab
      rw [List.getD_eq_getElem?_getD, List.getElem?_eq_getElem hi]
      exact h _ (List.getElem_mem hi)
    have h1 := hl p.1 (hp p (by simp)).1
    have h2 := hl p.2 (hp p (by simp)).2
    have h3 := h y hy
    split <;> omega
theorem labL_range {s : Sc} (hs : ScOk s) : ∀ z ∈ labL s, 0 ≤ z ∧ z < (s.notes.length : Int) := by
  unfold labL
  refine lab_range (s := s) _ _ _ (fun p hp => by have := joins_ok hs p hp; simpa using this) fun z hz => ?_
  obtain ⟨n, hn, rfl⟩ := List.mem_map.1 hz
  have := List.mem_range.1 hn
  omega
end Go.Sx.Ch
