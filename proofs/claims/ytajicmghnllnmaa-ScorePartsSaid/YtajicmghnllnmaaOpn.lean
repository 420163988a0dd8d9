/-
  Open arguments: structs and arrays of any nesting into plain things.
-/
import Derived.Test.YtajicmghnllnmaaShut
import Derived.Test.YtajicmghnllnmaaSzL
set_option linter.unusedVariables false
namespace Go.Sx
open Go.ChangeShapes Go.WideShapes Go.ChangeAt Go.RowKit Go.Sx.Sz

section
variable {H : Type} {enc' : TypeId × Value → H} {P : Program} {w : World}

/-- The cells of type e read as a plain thing. -/
def El {α : Type} (enc' : TypeId × Value → H) (P : Program) (w : World) (e : TypeId) (sz : Nat) (enc : α → List Value) (ok : α → Prop) : Prop := Elem enc' P w e sz enc (fun a _ => ok a)

theorem El.map {α β : Type} {e : TypeId} {sz : Nat} {enc : α → List Value} {ok : α → Prop} (h : El enc' P w e sz enc ok) (f : α → β) {encB : β → List Value} {okB : β → Prop} (he : ∀ a, encB (f a) = enc a) (ho : ∀ a, ok a → okB (f a)) : El enc' P w e sz encB okB := by
  intro n cs x hx hw
  obtain ⟨a, h1, h2, h3⟩ := h n cs x hx hw
  exact ⟨f a, by rw [he]; exact h1, by rw [he]; exact h2, ho a h3⟩
theorem El.int {e : TypeId} {k : IntKind} (he : P.underlying e = some (.int k)) : El enc' P w e 1 (fun n => [.int k n]) (Fits k) := elem_int he
theorem El.bool {e : TypeId} (he : P.underlying e = some .bool) : El enc' P w e 1 (fun b => [.bool b]) (fun _ => True) := elem_bool he

/-- A slice: its value and what it reads as. -/
theorem El.slice {α : Type} [Inhabited α] {t e : TypeId} {sz : Nat} {enc : α → List Value} {ok : α → Prop} (ht : P.underlying t = some (.slice e)) (hc : P.cellsOf e = sz) (hb : 0 < P.bytesOf e) (hE : El enc' P w e sz enc ok) :
    El enc' P w t 1 (fun a : Value × List α => [a.1]) (fun a => Sl w sz enc a.1 a.2 ∧ (∀ x ∈ a.2, ok x) ∧ a.2.length * P.bytesOf e ≤ reachBytes) := by
  intro n cs x h hw
  obtain ⟨v, xs, hcs, hS, hl, hok⟩ := sl_of_trod ht hc hb hE h hw
  refine ⟨(v, xs), hcs, rfl, hS, fun y hy => ?_, ?_⟩
  · obtain ⟨i, hi, rfl⟩ := List.getElem_of_mem hy
    exact hok i hi (by rw [← hl]; exact hi)
  · show xs.length * _ ≤ _
    rw [hl]
    obtain ⟨d, p⟩ := x
    cases d with
    | slice es sp =>
      unfold DataW.weights at hw
      rw [ht] at hw
      simp only [List.all_cons, Bool.and_eq_true, decide_eq_true_eq] at hw
      have := Nat.mul_le_mul_right (P.bytesOf e) (Nat.le_add_right es.length sp.length)
      simp only [delems]
      omega
    | _ => simp [delems]

/-- The fields from an offset on. -/
def Fs {α : Type} (enc' : TypeId × Value → H) (P : Program) (w : World) (fs : List Field) (off sz : Nat) (enc : α → List Value) (ok : α → Prop) : Prop :=
  ∀ (n : Nat) (cs : List Value) (ys : List (DataW H × List MemPlace)), ys.length = fs.length → (∀ (i : Nat) (f : Field), fs[i]? = some f → DataW.trod enc' P w 0 (fun _ => true) true n f.type ((cs.drop f.offset).take (P.cellsOf f.type)) = ys[i]?) →
    cs.length = off + sz → (DataW.weightsEach P (fs.map (·.type)) (ys.map (·.1))).all (· ≤ reachBytes) = true → ∃ a, cs.drop off = enc a ∧ (enc a).length = sz ∧ ok a

theorem Fs.nil (off : Nat) : Fs enc' P w [] off 0 (fun _ : Unit => []) (fun _ => True) := by
  intro n cs ys _ _ hl _
  exact ⟨(), List.drop_eq_nil_of_le (by omega), rfl, trivial⟩
theorem Fs.cons {α β : Type} {f : Field} {fs : List Field} {off s0 sz : Nat} {enc0 : α → List Value} {ok0 : α → Prop} {enc : β → List Value} {ok : β → Prop} (h0 : El enc' P w f.type s0 enc0 ok0) (hs : P.cellsOf f.type = s0) (ho : f.offset = off)
    (h : Fs enc' P w fs (off + s0) sz enc ok) : Fs enc' P w (f :: fs) off (s0 + sz) (fun a : α × β => enc0 a.1 ++ enc a.2) (fun a => ok0 a.1 ∧ ok a.2) := by
  intro n cs ys hy hf hl hw
  cases ys with
  | nil => simp at hy
  | cons y ys =>
    simp only [List.map_cons] at hw
    unfold DataW.weightsEach at hw
    obtain ⟨w0, w1⟩ := all_append hw
    have f0 := hf 0 f rfl
    rw [ho, hs] at f0
    obtain ⟨a, a1, a2, a3⟩ := h0 n _ y f0 w0
    obtain ⟨b, b1, b2, b3⟩ := h n cs ys (by simpa using hy) (fun i g hg => hf (i + 1) g (by simpa using hg)) (by omega) w1
    refine ⟨(a, b), ?_, by simp only [List.length_append]; omega, a3, b3⟩
    show _ = enc0 a ++ enc b
    rw [← a1, ← b1, ← List.drop_drop, List.take_append_drop]

theorem El.struct {α : Type} {t : TypeId} {fs : Array Field} {sz : Nat} {enc : α → List Value} {ok : α → Prop} (ht : P.underlying t = some (.struct fs)) (hc : P.cellsOf t = sz) (h : Fs enc' P w fs.toList 0 sz enc ok) : El enc' P w t sz enc ok := by
  intro n cs x hx hw
  obtain ⟨ys, m, _, rfl, hl, hlen, hf⟩ := DataW.trod_struct ht hx
  unfold DataW.weights at hw
  simp only [ht] at hw
  obtain ⟨a, h1, h2, h3⟩ := h m cs ys (by simpa using hlen) (fun i f hi => hf i f (by simpa using hi)) (by omega) hw
  exact ⟨a, by simpa using h1, h2, h3⟩

theorem El.v6 {t e : TypeId} (ht : P.underlying t = some (.array 6 e)) (he : P.underlying e = some (.int .i64)) (hc : P.cellsOf t = 6) (hce : P.cellsOf e = 1) : El enc' P w t 6 V6.list (fun v => ∀ k, k < 6 → Fits .i64 (v.get k)) := by
  intro n cs x hx hw
  obtain ⟨ys, m, _, rfl, hl, hlen, hf⟩ := DataW.trod_array ht hx
  rw [hc] at hl
  rw [hce] at hf
  have g : ∀ i, i < 6 → ∃ z, cs[i]? = some (.int .i64 z) ∧ Fits .i64 z := fun i hi => by
    have h1 := hf i hi
    have hy : ys[i]? = some ys[i] := List.getElem?_eq_getElem (by omega)
    rw [hy] at h1
    obtain ⟨z, h2, _, h3⟩ := DataW.trod_int he h1
    refine ⟨z, ?_, wf_fits h3⟩
    have := congrArg (·[0]?) h2
    simpa [List.getElem?_drop, List.getElem?_take] using this
  obtain ⟨a, a1, a2⟩ := g 0 (by omega)
  obtain ⟨b, b1, b2⟩ := g 1 (by omega)
  obtain ⟨c, c1, c2⟩ := g 2 (by omega)
  obtain ⟨d, d1, d2⟩ := g 3 (by omega)
  obtain ⟨e, e1, e2⟩ := g 4 (by omega)
  obtain ⟨f, f1, f2⟩ := g 5 (by omega)
  refine ⟨⟨a, b, c, d, e, f⟩, ?_, rfl, fun k hk => by rcases lt6 hk with rfl | rfl | rfl | rfl | rfl | rfl <;> assumption⟩
  apply List.ext_getElem?
  intro i
  match i with
  | 0 => exact a1
  | 1 => exact b1
  | 2 => exact c1
  | 3 => exact d1
  | 4 => exact e1
  | 5 => exact f1
  | m + 6 => rw [List.getElem?_eq_none (by omega)]; rfl

/-- An argument that is a struct or an array. -/
theorem Arg.agg {α : Type} {base : Nat} {t : TypeId} {sz : Nat} {enc : α → List Value} {ok : α → Prop} {v : Value} {d : DataW H} (ht : ∃ cs, v = .agg cs) (hE : El enc' P w t sz enc ok) (h : Arg enc' P w base t v d) : ∃ a, v = .agg (enc a).toArray ∧ ok a := by
  obtain ⟨cs, rfl⟩ := ht
  obtain ⟨_, ⟨p, fuel, hd⟩, hw⟩ := h
  obtain ⟨a, h1, _, h3⟩ := hE fuel _ (d, p) hd hw
  refine ⟨a, ?_, h3⟩
  simp only [Value.cells] at h1
  rw [← h1]
theorem okWide_array {n : Nat} {e t : TypeId} {r : Reach} {b : Nat} {v : Value} (ht : P.underlying t = some (.array n e)) (h : Value.okWide P w r b t v) : ∃ cs, v = .agg cs := by
  simp only [Value.okWide, ht] at h
  obtain ⟨cs, h1, _⟩ := h
  exact ⟨cs, h1⟩
theorem Arg.array {α : Type} {base n : Nat} {t e : TypeId} {sz : Nat} {enc : α → List Value} {ok : α → Prop} {v : Value} {d : DataW H} (ht : P.underlying t = some (.array n e)) (hE : El enc' P w t sz enc ok) (h : Arg enc' P w base t v d) : ∃ a, v = .agg (enc a).toArray ∧ ok a :=
  Arg.agg (okWide_array ht h.1) hE h
theorem Arg.struct {α : Type} {base : Nat} {t : TypeId} {sz : Nat} {enc : α → List Value} {ok : α → Prop} {fs : Array Field} {v : Value} {d : DataW H} (ht : P.underlying t = some (.struct fs)) (hE : El enc' P w t sz enc ok) (h : Arg enc' P w base t v d) : ∃ a, v = .agg (enc a).toArray ∧ ok a :=
  Arg.agg (by obtain ⟨cs, e, _⟩ := okWide_struct ht h.1; exact ⟨cs, e⟩) hE h
theorem Arg.slice {α : Type} [Inhabited α] {base : Nat} {t e : TypeId} {sz : Nat} {enc : α → List Value} {ok : α → Prop} {v : Value} {d : DataW H} (ht : P.underlying t = some (.slice e)) (hc : P.cellsOf e = sz) (hb : 0 < P.bytesOf e) (hE : El enc' P w e sz enc ok) (h : Arg enc' P w base t v d) :
    ∃ xs, Sl w sz enc v xs ∧ (∀ x ∈ xs, ok x) ∧ xs.length * P.bytesOf e ≤ reachBytes := by
  obtain ⟨h0, ⟨p, fuel, h1⟩, h2⟩ := h
  obtain ⟨a, len, cap, rfl⟩ := okWide_slice ht h0
  obtain ⟨⟨v, xs⟩, e1, _, e2⟩ := El.slice ht hc hb hE fuel _ (d, p) h1 h2
  simp only [Value.cells] at e1
  cases e1
  exact ⟨xs, e2⟩
end
end Go.Sx
