/-
  The shell of a law: nothing that was there has turned, so each argument reads as it read; arguments opened into plain lists.
-/
import Derived.Test.YtajicmghnllnmaaRows
import Derived.ProofKit
import Derived.OpenShut
import Derived.JoinedCond
import Derived.SizedLaws
import Derived.Deep.Slices
import Derived.Deep.CondSized
import Derived.Test.YtajicmghnllnmaaLib
namespace Go.Sx
open Go.ChangeShapes Go.WideShapes Go.ChangeAt Go.RowKit

section
variable {H : Type} {enc : TypeId × Value → H} {P : Program}

theorem trodAll_ext (hl : laidOutB P = true) {W W' : World} (x : Ext W W') : ∀ {ts : List TypeId} {vs : List Value} {ds : List (DataW H)} {ps : List MemPlace},
    ts.all (fun t => P.readableRec t && decide (t < P.types.size)) = true → DataW.TrodAll enc P W 0 (fun _ => true) true ts vs ds ps → (∀ p ∈ ps, p.block < W.heap.size) →
    DataW.TrodAll enc P W' 0 (fun b => decide (b < W.heap.size)) true ts vs ds ps
  | [], vs, ds, ps, _, h, _ => by
    obtain ⟨rfl, rfl, rfl⟩ := trodAll_nil h
    exact trodAll_mk0
  | t :: ts, vs, ds, ps, hr, h, hlt => by
    obtain ⟨v, vs', d, ds', p, q, rfl, rfl, rfl, h0, h1⟩ := trodAll_cons h
    simp only [List.all_cons, Bool.and_eq_true, decide_eq_true_eq] at hr
    exact trodAll_cons_mk (Below.trod hl hr.1.1 hr.1.2 h0 x (fun y hy => hlt y (by simp [hy]))) (trodAll_ext hl x (by simpa using hr.2) h1 (fun y hy => hlt y (by simp [hy])))

theorem law_post {f : Func} {s : ChangeSpec} {W W' : World} {args : Array Value} {ds gs : List (DataW H)} {before : List MemPlace} {tb : TypeId} (hl : laidOutB P = true)
    (hr : f.params.toList.all (fun t => P.readableRec t && decide (t < P.types.size)) = true) (hres : f.resultTypes = #[tb]) (ht : P.underlying tb = some .bool) (hv : s.vars = [])
    (hW : DataW.Whole enc P f.params.toList s.vars false W args.toList ds gs before) (hs : s.fn H (ds ++ gs) = { results := [.lit (.bool true)], args := ds }) (x : Ext W W') :
    s.post enc P f false true false false W args (.bool true) W' := by
  have hlt := hW.lt
  have hW0 := hW
  obtain ⟨p, q, hA, hV, rfl, hz, hn⟩ := hW
  rw [hv] at hV
  obtain ⟨rfl, rfl⟩ := trodVars_none hV
  refine ⟨ds, [], _, [], p, [], hW0, ?_, ?_, ?_, World.keptBut_mono (fun _ h => h) (Below.frame x _), fun h => by cases h⟩
  · rw [hs, hres]
    exact trodAll_cons_mk (shut_bool ht _) trodAll_mk0
  · rw [hs]
    exact trodAll_ext hl x hr hA (fun y hy => hlt y (by simp [hy]))
  · rw [hv, hs]
    rfl

/-- How an element's cells read: a plain thing. -/
def Elem {α : Type} (enc' : TypeId × Value → H) (P : Program) (w : World) (e : TypeId) (sz : Nat) (enc : α → List Value) (ok : α → DataW H → Prop) : Prop :=
  ∀ n cs x, DataW.trod enc' P w 0 (fun _ => true) true n e cs = some x → (x.1.weights P e).all (· ≤ reachBytes) = true → ∃ a, cs = enc a ∧ (enc a).length = sz ∧ ok a x.1

/-- A slice's elements, as data. -/
def delems : DataW H → List (DataW H)
  | .slice es _ => es
  | _ => []

theorem all_append {l k : List Nat} (h : (l ++ k).all (· ≤ reachBytes) = true) : l.all (· ≤ reachBytes) = true ∧ k.all (· ≤ reachBytes) = true := by
  simpa using h

theorem weightsAll_mem {e : TypeId} {d : DataW H} {l : List (DataW H)} (hd : d ∈ l) (h : (DataW.weightsAll P e l).all (· ≤ reachBytes) = true) : (d.weights P e).all (· ≤ reachBytes) = true := by
  induction l with
  | nil => cases hd
  | cons x l ih =>
    unfold DataW.weightsAll at h
    obtain ⟨h1, h2⟩ := all_append h
    rcases List.mem_cons.1 hd with rfl | hd
    · exact h1
    · exact ih hd h2

theorem sl_of_trod {α : Type} [Inhabited α] {w : World} {t e : TypeId} {sz : Nat} {enc' : α → List Value} {ok : α → DataW H → Prop} {fuel : Nat} {cs : List Value} {x : DataW H × List MemPlace} (ht : P.underlying t = some (.slice e)) (hc : P.cellsOf e = sz) (hb : 0 < P.bytesOf e)
    (hE : Elem enc P w e sz enc' ok) (h : DataW.trod enc P w 0 (fun _ => true) true fuel t cs = some x) (hw : (x.1.weights P t).all (· ≤ reachBytes) = true) :
    ∃ v xs, cs = [v] ∧ Sl w sz enc' v xs ∧ xs.length = (delems x.1).length ∧ ∀ i (h : i < xs.length) (h' : i < (delems x.1).length), ok xs[i] (delems x.1)[i] := by
  rcases Deep.open_slice ht h with ⟨rfl, rfl⟩ | ⟨a, len, cap, m, n, D, Pl, rfl, _, hl, hm, hmm, rfl, hx⟩
  · exact ⟨_, [], rfl, Sl.nil _ _ _, rfl, fun i hi => absurd hi (by simp)⟩
  · simp only [if_true] at hmm
    subst hmm
    unfold DataW.weights at hw
    rw [ht] at hw
    simp only [List.all_cons, Bool.and_eq_true, decide_eq_true_eq, List.length_map, List.length_range] at hw
    obtain ⟨hw0, hw1⟩ := hw
    have hw2 := (all_append hw1).1
    have hlen : len ≤ reachBytes := by
      have : (len + (m - len)) * 1 ≤ (len + (m - len)) * P.bytesOf e := Nat.mul_le_mul_left _ hb
      omega
    obtain ⟨f, hf⟩ := Deep.choose_lt (n := len) (α := α) (p := fun i y => w.cells? 0 (a.add (i * sz)) sz = some (enc' y) ∧ (enc' y).length = sz ∧ ok y (D i)) (fun i hi => by
      obtain ⟨cs', h1, h2⟩ := hx i (by omega)
      obtain ⟨y, rfl, h3, h4⟩ := hE _ _ _ h2 (weightsAll_mem (List.mem_map.2 ⟨i, List.mem_range.2 hi, rfl⟩) hw2)
      rw [hc] at h1
      exact ⟨y, h1, h3, h4⟩)
    refine ⟨_, (List.range len).map f, rfl, ⟨some a, m, by simp, by simpa using hl, hm, by simpa [reachBytes] using hlen, ?_⟩, by simp [delems], ?_⟩
    · intro i hi
      simp at hi
      refine ⟨a, rfl, fun j hj => ?_⟩
      obtain ⟨h1, h2, _⟩ := hf i hi
      obtain ⟨_, _, h3⟩ := World.cells?_some h1
      have h4 := h3 j hj
      rw [Deep.add_add] at h4
      rw [h4]
      simp only [List.getElem_map, List.getElem_range]
      rw [List.getElem?_eq_getElem (by omega)]
      simp [List.getD, List.getElem?_eq_getElem (show j < (enc' (f i)).length by omega)]
    · intro i hi hi'
      simp at hi
      simpa [delems] using (hf i hi).2.2

theorem open_sl {α : Type} [Inhabited α] {w : World} {r : Reach} {b0 : Nat} {t e : TypeId} {sz : Nat} {enc' : α → List Value} {ok : α → DataW H → Prop} {v : Value} {d : DataW H} {ps : List MemPlace} (ht : P.underlying t = some (.slice e)) (hc : P.cellsOf e = sz) (hb : 0 < P.bytesOf e)
    (hE : Elem enc P w e sz enc' ok) (hval : Value.okWide P w r b0 t v) (h : DataW.Trod enc P w 0 (fun _ => true) true t v d ps) (hw : (d.weights P t).all (· ≤ reachBytes) = true) :
    ∃ xs, Sl w sz enc' v xs ∧ xs.length = (delems d).length ∧ ∀ i (h : i < xs.length) (h' : i < (delems d).length), ok xs[i] (delems d)[i] := by
  obtain ⟨a, len, cap, rfl⟩ := okWide_slice ht hval
  obtain ⟨fuel, hf⟩ := h
  obtain ⟨v, xs, hcs, hS, hl, hok⟩ := sl_of_trod ht hc hb hE hf hw
  simp [Value.cells] at hcs
  subst hcs
  exact ⟨xs, hS, hl, hok⟩

theorem open_sl' {α : Type} [Inhabited α] {w : World} {r : Reach} {b0 : Nat} {t e : TypeId} {sz : Nat} {enc' : α → List Value} {ok : α → Prop} {v : Value} {d : DataW H} {ps : List MemPlace} (ht : P.underlying t = some (.slice e)) (hc : P.cellsOf e = sz) (hb : 0 < P.bytesOf e)
    (hE : Elem enc P w e sz enc' (fun a _ => ok a)) (hval : Value.okWide P w r b0 t v) (h : DataW.Trod enc P w 0 (fun _ => true) true t v d ps) (hw : (d.weights P t).all (· ≤ reachBytes) = true) :
    ∃ xs, Sl w sz enc' v xs ∧ xs.length = (delems d).length ∧ ∀ x ∈ xs, ok x := by
  obtain ⟨xs, hS, hl, hok⟩ := open_sl ht hc hb hE hval h hw
  refine ⟨xs, hS, hl, fun x hx => ?_⟩
  obtain ⟨i, hi, rfl⟩ := List.getElem_of_mem hx
  exact hok i hi (by omega)

/-- What fits an integer's kind. -/
def Fits (k : IntKind) (n : Int) : Prop := k.min ≤ n ∧ n ≤ k.max
theorem elem_int {w : World} {e : TypeId} {k : IntKind} (he : P.underlying e = some (.int k)) : Elem enc P w e 1 (fun n => [.int k n]) (fun n _ => Fits k n) := by
  intro n cs x h _
  obtain ⟨m, rfl, rfl, hm⟩ := DataW.trod_int he h
  simp only [Lit.wf, Bool.and_eq_true, decide_eq_true_eq] at hm
  exact ⟨m, rfl, rfl, hm⟩
theorem elem_bool {w : World} {e : TypeId} (he : P.underlying e = some .bool) : Elem enc P w e 1 (fun b => [.bool b]) (fun _ _ => True) := by
  intro n cs x h _
  obtain ⟨m, rfl, rfl⟩ := DataW.trod_bool he h
  exact ⟨m, rfl, rfl, trivial⟩
theorem elem_string {w : World} {e : TypeId} (he : P.underlying e = some .string) : Elem enc P w e 1 (fun s => [.string s]) (fun s _ => s.size ≤ reachBytes) := by
  intro n cs x h hw
  obtain ⟨m, rfl, rfl, hm⟩ := DataW.trod_string he h
  refine ⟨m, rfl, rfl, ?_⟩
  unfold DataW.weights at hw
  simpa using hw
theorem wf_fits {k : IntKind} {n : Int} (h : (Lit.int k n).wf = true) : Fits k n := by
  unfold Fits
  simpa only [Lit.wf, Bool.and_eq_true, decide_eq_true_eq] using h

/-- One argument, as it came. -/
def Arg (enc : TypeId × Value → H) (P : Program) (W : World) (base : Nat) (t : TypeId) (v : Value) (d : DataW H) : Prop :=
  Value.okWide P W .any base t v ∧ (∃ p, DataW.Trod enc P W 0 (fun _ => true) true t v d p) ∧ (d.weights P t).all (· ≤ reachBytes) = true

def Args (enc : TypeId × Value → H) (P : Program) (W : World) (base : Nat) : List TypeId → List Value → List (DataW H) → Prop
  | [], [], [] => True
  | t :: ts, v :: vs, d :: ds => Arg enc P W base t v d ∧ Args enc P W base ts vs ds
  | _, _, _ => False

theorem Args.cons {W : World} {base : Nat} {t : TypeId} {ts : List TypeId} {vs : List Value} {ds : List (DataW H)} (h : Args enc P W base (t :: ts) vs ds) :
    ∃ v vs' d ds', vs = v :: vs' ∧ ds = d :: ds' ∧ Arg enc P W base t v d ∧ Args enc P W base ts vs' ds' := by
  cases vs <;> cases ds <;> simp only [Args] at h
  exact ⟨_, _, _, _, rfl, rfl, h.1, h.2⟩
theorem Args.nil {W : World} {base : Nat} {vs : List Value} {ds : List (DataW H)} (h : Args enc P W base [] vs ds) : vs = [] ∧ ds = [] := by
  cases vs <;> cases ds <;> simp only [Args] at h
  exact ⟨rfl, rfl⟩

theorem Arg.int {W : World} {base : Nat} {t : TypeId} {k : IntKind} {v : Value} {d : DataW H} (ht : P.underlying t = some (.int k)) (h : Arg enc P W base t v d) : ∃ n, v = .int k n ∧ Fits k n := by
  obtain ⟨h0, ⟨p, h1⟩, _⟩ := h
  obtain ⟨n, rfl, _, _, hw⟩ := open_int ht h0 h1
  exact ⟨n, rfl, wf_fits hw⟩
theorem Arg.bool {W : World} {base : Nat} {t : TypeId} {v : Value} {d : DataW H} (ht : P.underlying t = some .bool) (h : Arg enc P W base t v d) : ∃ b, v = .bool b := by
  obtain ⟨h0, ⟨p, h1⟩, _⟩ := h
  obtain ⟨b, rfl, _, _⟩ := open_bool ht h0 h1
  exact ⟨b, rfl⟩
theorem Arg.sl {α : Type} [Inhabited α] {w : World} {base : Nat} {t e : TypeId} {sz : Nat} {enc' : α → List Value} {ok : α → Prop} {v : Value} {d : DataW H} (ht : P.underlying t = some (.slice e)) (hc : P.cellsOf e = sz) (hb : 0 < P.bytesOf e)
    (hE : Elem enc P w e sz enc' (fun a _ => ok a)) (h : Arg enc P w base t v d) : ∃ xs, Sl w sz enc' v xs ∧ xs.length = (delems d).length ∧ ∀ x ∈ xs, ok x := by
  obtain ⟨h0, ⟨p, h1⟩, h2⟩ := h
  exact open_sl' ht hc hb hE h0 h1 h2
/-- .. the reach too. -/
theorem Arg.sl_reach {α : Type} {w : World} {base : Nat} {t e : TypeId} {v : Value} {d : DataW H} {xs : List α} (ht : P.underlying t = some (.slice e)) (h : Arg enc P w base t v d) (hl : xs.length = (delems d).length) : xs.length * P.bytesOf e ≤ reachBytes := by
  obtain ⟨_, _, h2⟩ := h
  rw [hl]
  cases d with
  | slice es sp =>
    unfold DataW.weights at h2
    rw [ht] at h2
    simp only [List.all_cons, Bool.and_eq_true, decide_eq_true_eq] at h2
    have := Nat.mul_le_mul_right (P.bytesOf e) (Nat.le_add_right es.length sp.length)
    simp only [delems]
    omega
  | _ => simp [delems]

theorem args_of {W : World} {base : Nat} : ∀ {ts : List TypeId} {vs : List Value} {ds : List (DataW H)} {ps : List MemPlace}, (∀ (j : Nat) t v, ts[j]? = some t → vs[j]? = some v → Value.okWide P W .any base t v) →
    DataW.TrodAll enc P W 0 (fun _ => true) true ts vs ds ps → (DataW.weightsEach P ts ds).all (· ≤ reachBytes) = true → Args enc P W base ts vs ds
  | [], vs, ds, ps, _, h, _ => by
    obtain ⟨rfl, rfl, rfl⟩ := trodAll_nil h
    trivial
  | t :: ts, vs, ds, ps, hv, h, hw => by
    obtain ⟨v, vs', d, ds', p, q, rfl, rfl, rfl, h0, h1⟩ := trodAll_cons h
    unfold DataW.weightsEach at hw
    obtain ⟨w0, w1⟩ := all_append hw
    exact ⟨⟨hv 0 t v rfl rfl, ⟨p, h0⟩, w0⟩, args_of (fun j t' v' a b => hv (j + 1) t' v' (by simpa using a) (by simpa using b)) h1 w1⟩

theorem args_len {W : World} {base : Nat} : ∀ {ts : List TypeId} {vs : List Value} {ds : List (DataW H)}, Args enc P W base ts vs ds → ds.length = ts.length
  | [], vs, ds, h => by obtain ⟨_, rfl⟩ := h.nil; rfl
  | t :: ts, vs, ds, h => by
    obtain ⟨v, vs', d, ds', rfl, rfl, _, h1⟩ := h.cons
    simp [args_len h1]
end

def onlyBools (P : Program) (f : Func) : Bool := match f.resultTypes.toList with | [t] => (match P.underlying t with | some .bool => true | _ => false) | _ => false
theorem onlyBools_some {P : Program} {f : Func} (h : onlyBools P f = true) : ∃ t, f.resultTypes = #[t] ∧ P.underlying t = some .bool := by
  unfold onlyBools at h
  split at h
  · rename_i t ht
    refine ⟨t, Array.toList_inj.1 ht, ?_⟩
    split at h
    · assumption
    · cases h
  · cases h

/-- A law, for every input. -/
theorem law_said {C : Checked} {os : Os} {f : FuncId} {fn : Func} {s : ChangeSpec} {H : Type} {enc : TypeId × Value → H} (own : ownKnob C.prog.godebug = none) (started : os.Started) (noInit : C.prog.inits.idxOf? f = none) (hfn : C.prog.funcs[f]? = some fn)
    (witness : ∃ (w : World) (tape : Tape) (i : Input), w.os = os ∧ (w.forCall tape i).Shaped C.prog ∧ i.vars = [] ∧ Input.okWide C.prog (w.forCall tape i) .any w.heap.size f i ∧
      s.pre6 enc C.prog fn [] false (w.forCall tape i).memory i.args ∧ ({} : Assume).holds C.prog (lone (Frame.enter C.prog f i.args .normal) [] (w.forCall tape i)))
    (hl : laidOutB C.prog = true) (hr : fn.params.toList.all (fun t => C.prog.readableRec t && decide (t < C.prog.types.size)) = true) (hres : onlyBools C.prog fn = true) (hv : s.vars = [])
    (hs : ∀ ds : List (DataW H), ds.length = fn.params.toList.length → s.fn H ds = { results := [.lit (.bool true)], args := ds })
    (walk : ∀ (W : World) (base : Nat) (vs : List Value) (ds : List (DataW H)), Args enc C.prog W base fn.params.toList vs ds → Calls C.prog f vs.toArray W fun e W' => e = .returned (.bool true) ∧ Ext W W') :
    ReturnsInHanded {} C os f .any (s.pre6 enc C.prog fn [] false) (s.post enc C.prog fn false true false false) := by
  refine returnsInHanded_of_change_sized own started noInit hfn witness ?_
  intro W base args ds gs before hval hW _ hw _
  obtain ⟨tb, hb1, hb2⟩ := onlyBools_some hres
  have hW0 := hW
  obtain ⟨p, q, hA, hV, rfl, hz, hn⟩ := hW
  rw [hv] at hV
  obtain ⟨rfl, rfl⟩ := trodVars_none hV
  have hvt : s.plain.varTypes C.prog = [] := by
    unfold DataSpec.varTypes
    have : s.plain.vars = [] := hv
    rw [this]; rfl
  rw [hvt, List.append_nil, List.append_nil] at hw
  have hArgs : Args enc C.prog W base fn.params.toList args.toList ds := args_of (fun j t v a b => hval j t v (by simpa using a) (by simpa using b)) hA hw
  have h := walk W base args.toList ds hArgs
  rw [Array.toArray_toList] at h
  refine h.mono fun e W' ⟨he, x⟩ => ?_
  exact ⟨_, he, law_post hl hr hb1 hb2 hv hW0 (by rw [List.append_nil]; exact hs ds (args_len hArgs)) x⟩

/-- A law, under a condition on what is read. -/
theorem law_upto {C : Checked} {os : Os} {f : FuncId} {fn : Func} {s : OpenSpec} {k : (H : Type) → List (DataW H) → Bool} (hk : s.cond = some k) {F : Stop.Interp} {H : Type} {enc : TypeId × Value → H} (own : ownKnob C.prog.godebug = none) (started : os.Started) (noInit : C.prog.inits.idxOf? f = none) (hfn : C.prog.funcs[f]? = some fn)
    (witness : ∃ (w : World) (tape : Tape) (i : Input), w.os = os ∧ (w.forCall tape i).Shaped C.prog ∧ i.vars = [] ∧ Input.okWide C.prog (w.forCall tape i) .any w.heap.size f i ∧
      s.pre6 enc C.prog fn [] false (w.forCall tape i).memory i.args ∧ ({} : Assume).holds C.prog (lone (Frame.enter C.prog f i.args .normal) [] (w.forCall tape i)))
    (hl : laidOutB C.prog = true) (hr : fn.params.toList.all (fun t => C.prog.readableRec t && decide (t < C.prog.types.size)) = true) (hres : onlyBools C.prog fn = true) (hv : s.vars = [])
    (hs : ∀ ds : List (DataW H), ds.length = fn.params.toList.length → (s.at F).fn H ds = { results := [.lit (.bool true)], args := ds })
    (walk : ∀ (W : World) (base : Nat) (vs : List Value) (ds : List (DataW H)), k H ds = true → Args enc C.prog W base fn.params.toList vs ds → Calls C.prog f vs.toArray W fun e W' => e = .returned (.bool true) ∧ Ext W W') :
    ReturnsInHanded {} C os f .any (s.pre6 enc C.prog fn [] false) ((s.at F).post enc C.prog fn false true false false) := by
  refine returnsInHanded_of_cond_sized hk own started noInit hfn witness ?_
  intro W base args ds gs before hval hW _ hkk hw _
  obtain ⟨tb, hb1, hb2⟩ := onlyBools_some hres
  have hW0 := hW
  obtain ⟨p, q, hA, hV, rfl, hz, hn⟩ := hW
  rw [hv] at hV
  obtain ⟨rfl, rfl⟩ := trodVars_none hV
  have hvt : s.bare.plain.varTypes C.prog = [] := by
    unfold DataSpec.varTypes
    have : s.bare.plain.vars = [] := hv
    rw [this]; rfl
  rw [hvt, List.append_nil, List.append_nil] at hw
  rw [List.append_nil] at hkk
  have hArgs : Args enc C.prog W base fn.params.toList args.toList ds := args_of (fun j t v a b => hval j t v (by simpa using a) (by simpa using b)) hA hw
  have h := walk W base args.toList ds hkk hArgs
  rw [Array.toArray_toList] at h
  refine h.mono fun e W' ⟨he, x⟩ => ?_
  exact ⟨_, he, law_post hl hr hb1 hb2 hv hW0 (by rw [List.append_nil]; exact hs ds (args_len hArgs)) x⟩
end Go.Sx
