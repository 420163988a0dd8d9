/-
  A second law on regions that draw their order: besides operations with one value, such as yield a new thing in any world of a class (a call that makes a row, a literal), and such as are alone ready and may write into what the class 'Cd' does not speak of.
-/
import Derived.Test.YtajicmghnllnmaaDr
set_option linter.unusedVariables false
namespace Go.Sx

/-- What is asked of one operation: 'A' is what its value is, 'T' what its value means in the world behind it. -/
structure Kd where
  alone : Bool
  A : Value → Prop
  T : Value → World → Prop
  w0 : Value
  hA : A w0

def Kd.det (v : Value) : Kd := ⟨false, fun u => u = v, fun _ _ => True, v, rfl⟩
def Kd.new (A : Value → Prop) (T : Value → World → Prop) (w0 : Value) (hA : A w0) : Kd := ⟨false, A, T, w0, hA⟩
def Kd.one (A : Value → Prop) (T : Value → World → Prop) (w0 : Value) (hA : A w0) : Kd := ⟨true, A, T, w0, hA⟩

section
variable {P : Program} {ops : Array Oper} {Q : Exit → Act → World → Prop} {md : Region.Mode} {R1 R2 : World → World → Prop} {Cd : World → Prop} {pre : Nat} {kd : Nat → Kd}

def opS (P : Program) (R1 R2 : World → World → Prop) (Cd : World → Prop) (k : Kd) (o : Oper) (a : Act) (C : World → Prop) : Prop :=
  if k.alone then ∀ w, Cd w → C w → opR P o a w (fun v w' => R2 w w' ∧ k.A v ∧ k.T v w') else ∀ w, Cd w → opR P o a w (fun v w' => R1 w w' ∧ k.A v ∧ k.T v w')

def stepK (P : Program) (ops : Array Oper) (R1 R2 : World → World → Prop) (Cd : World → Prop) (k : Kd) (i : Nat) (K : Act → (World → Prop) → (World → Prop) → Prop) (a : Act) (C D : World → Prop) : Prop :=
  match ops[i]? with
  | none => K a C D
  | some o =>
    if Region.wanted o (yielded ops a.tmps) then
      opS P R1 R2 Cd k o a C ∧ ∀ v, k.A v → K (a.put o.dst v) (if k.alone then k.T v else C) (if k.alone then D else fun w => D w ∧ k.T v w)
    else K (a.put o.dst undef) C D

def wpX (P : Program) (md : Region.Mode) (ops : Array Oper) (R1 R2 : World → World → Prop) (Cd : World → Prop) (kd : Nat → Kd) (Q : Exit → Act → World → Prop) (pre : Nat) : Nat → Array Bool → Act → (World → Prop) → (World → Prop) → Prop
  | 0, listed, a, C, D => Region.ready md ops listed = [] ∧ ∀ w, Cd w → C w → D w → wpAny P md ops Q 0 listed a w
  | fuel + 1, listed, a, C, D =>
    if preDone pre listed then ∀ w, Cd w → C w → D w → wpAny P md ops Q (fuel + 1) listed a w
    else Region.ready md ops listed ≠ [] ∧ ∀ i ∈ Region.ready md ops listed, i < pre ∧ stepK P ops R1 R2 Cd (kd i) i (wpX P md ops R1 R2 Cd kd Q pre fuel (listed.setIfInBounds i true)) a C D

theorem stepK_mono {k : Kd} {i : Nat} {K K' : Act → (World → Prop) → (World → Prop) → Prop} {a : Act} {C D D' : World → Prop} (hD : ∀ w, D' w → D w) (hK : ∀ a C D D', (∀ w, D' w → D w) → K a C D → K' a C D') (h : stepK P ops R1 R2 Cd k i K a C D) :
    stepK P ops R1 R2 Cd k i K' a C D' := by
  unfold stepK at *
  split
  · rename_i ho; simp only [ho] at h; exact hK _ _ _ _ hD h
  · rename_i o ho
    simp only [ho] at h
    split
    · rename_i hw
      simp only [hw, if_true] at h
      refine ⟨h.1, fun v hv => hK _ _ _ _ (fun w => ?_) (h.2 v hv)⟩
      cases k.alone
      · exact fun ⟨x, y⟩ => ⟨hD w x, y⟩
      · exact hD w
    · rename_i hw; simp only [hw] at h; exact hK _ _ _ _ hD h

theorem wpX_anti : ∀ (fuel : Nat) (listed : Array Bool) (a : Act) (C D D' : World → Prop), (∀ w, D' w → D w) → wpX P md ops R1 R2 Cd kd Q pre fuel listed a C D → wpX P md ops R1 R2 Cd kd Q pre fuel listed a C D' := by
  intro fuel
  induction fuel with
  | zero => intro listed a C D D' hD h; exact ⟨h.1, fun w h1 h2 h3 => h.2 w h1 h2 (hD w h3)⟩
  | succ fuel ih =>
    intro listed a C D D' hD h
    unfold wpX at h ⊢
    split
    · rename_i hd; simp only [hd, if_true] at h; exact fun w h1 h2 h3 => h w h1 h2 (hD w h3)
    · rename_i hd
      simp only [hd] at h
      exact ⟨h.1, fun i hi => ⟨(h.2 i hi).1, stepK_mono hD (fun a C D D' hD hk => ih _ a C D D' hD hk) (h.2 i hi).2⟩⟩

structure Fits2 (R1 R2 : World → World → Prop) (Cd : World → Prop) (kd : Nat → Kd) : Prop where
  sub : ∀ w w', R1 w w' → R2 w w'
  cd : Stable R2 Cd
  one : ∀ i, (kd i).alone = true → ∀ v, Stable R1 ((kd i).T v)
  new : ∀ i, (kd i).alone = false → ∀ v, Stable R2 ((kd i).T v)

theorem wpAny_of_wpX (F : Fits2 R1 R2 Cd kd) : ∀ (fuel : Nat) (listed : Array Bool) (a : Act) (C D : World → Prop) (w : World), wpX P md ops R1 R2 Cd kd Q pre fuel listed a C D → Stable R1 C → Stable R2 D → Cd w → C w → D w → wpAny P md ops Q fuel listed a w := by
  intro fuel
  induction fuel with
  | zero => intro listed a C D w h _ _ h1 h2 h3; exact h.2 w h1 h2 h3
  | succ fuel ih =>
    intro listed a C D w h hs hd h1 h2 h3
    unfold wpX at h
    split at h
    · exact h w h1 h2 h3
    · refine ⟨fun h0 => absurd h0 h.1, fun i hi => ?_⟩
      have hk := (h.2 i hi).2
      unfold stepK at hk
      unfold wpOp
      split
      · rename_i ho; simp only [ho] at hk; exact ih _ _ _ _ _ hk hs hd h1 h2 h3
      · rename_i o ho
        simp only [ho] at hk
        split
        · rename_i hw
          simp only [hw, if_true] at hk
          obtain ⟨hop, hn⟩ := hk
          unfold opS at hop
          cases hal : (kd i).alone
          · simp only [hal, Bool.false_eq_true, if_false] at hop hn
            refine .inl (opR_wp (hop w h1) fun v w' ⟨k1, k2, k3⟩ => ih _ _ _ _ w' (hn v k2) hs ?_ (F.cd _ _ h1 (F.sub _ _ k1)) (hs _ _ h2 k1) ⟨hd _ _ h3 (F.sub _ _ k1), k3⟩)
            exact fun x y hx hxy => ⟨hd x y hx.1 hxy, F.new i hal v x y hx.2 hxy⟩
          · simp only [hal, if_true] at hop hn
            exact .inl (opR_wp (hop w h1 h2) fun v w' ⟨k1, k2, k3⟩ => ih _ _ _ _ w' (hn v k2) (F.one i hal v) hd (F.cd _ _ h1 k1) k3 (hd _ _ h3 k1))
        · rename_i hw; simp only [hw] at hk; exact ih _ _ _ _ _ hk hs hd h1 h2 h3

theorem opS_put {k : Kd} {oj : Oper} {dst : Option Tmp} {v : Value} (hsj : ∀ cs b, oj.op ≠ .select cs b) {a : Act} {C : World → Prop} (h1 : ∀ d, dst = some d → d ∉ oj.looksAt ops) :
    opS P R1 R2 Cd k oj (a.put dst v) C = opS P R1 R2 Cd k oj a C := by
  unfold opS opR
  rw [execOp_put (ops := ops) oj hsj a dst v h1]

/-- An operation apart from another's: the same steps, the other way round. -/
theorem stepK_put {k : Kd} {j : Nat} {oi oj : Oper} (hj : ops[j]? = some oj) (hap : oi.apart ops oj = true) (hsj : ∀ cs b, oj.op ≠ .select cs b) {v : Value} {K : Act → (World → Prop) → (World → Prop) → Prop} {a : Act} {C D : World → Prop}
    (h : stepK P ops R1 R2 Cd k j K (a.put oi.dst v) C D) :
    (Region.wanted oj (yielded ops a.tmps) = true → opS P R1 R2 Cd k oj a C ∧ ∀ u, k.A u → K ((a.put oj.dst u).put oi.dst v) (if k.alone then k.T u else C) (if k.alone then D else fun w => D w ∧ k.T u w)) ∧
    (Region.wanted oj (yielded ops a.tmps) = false → K ((a.put oj.dst undef).put oi.dst v) C D) := by
  obtain ⟨h1, h2, h3⟩ := Oper.apart_spec hap
  unfold stepK at h
  simp only [hj] at h
  rw [wanted_put oj a oi.dst v h1, opS_put hsj h1] at h
  refine ⟨fun hw => ?_, fun hw => ?_⟩
  · simp only [hw, if_true] at h
    exact ⟨h.1, fun u hu => by rw [← Act.put_comm a v u h2]; exact h.2 u hu⟩
  · simp only [hw, Bool.false_eq_true, if_false] at h
    rw [← Act.put_comm a v undef h2]; exact h

/-- An operation that is not 'alone' may be taken first. -/
theorem wpX_take {B : Nat → Nat → Bool} (hcl : closB md ops B = true) (hbar : barB ops B pre = true) (hpre : pre ≤ ops.size) (hsel : Region.noSelect ops = true) {i : Nat} {oi : Oper} (hi : ops[i]? = some oi) (hip : i < pre) (hal : (kd i).alone = false) :
    ∀ (fuel : Nat) (listed : Array Bool) (a : Act) (C D : World → Prop), listed.size = ops.size → BC ops B listed →
      (∀ j oj, ops[j]? = some oj → j ≠ i → listed.getD j true = false → (∀ e ∈ oj.after, Region.binds md e = true → e.on ≠ i) → oi.apart ops oj = true) →
      i ∈ Region.ready md ops listed →
      stepK P ops R1 R2 Cd (kd i) i (wpX P md ops R1 R2 Cd kd Q pre fuel (listed.setIfInBounds i true)) a C D → wpX P md ops R1 R2 Cd kd Q pre (fuel + 1) listed a C D := by
  intro fuel
  induction fuel with
  | zero =>
    intro listed a C D hsz hbc _ hr H
    unfold wpX
    rw [if_neg (by rw [preDone_of_unlisted hip (mem_ready.1 hr).1]; exact Bool.false_ne_true)]
    refine ⟨fun h => (by rw [h] at hr; cases hr), fun j hj => ⟨bar_lt hcl hbar hpre hsz hbc hj (preDone_of_unlisted hip (mem_ready.1 hr).1), ?_⟩⟩
    by_cases hji : j = i
    · subst hji; exact H
    · exfalso
      have h1 := ready_mono hj hji
      unfold stepK at H
      simp only [hi] at H
      split at H
      · have := (H.2 (kd i).w0 (kd i).hA).1
        rw [this] at h1; cases h1
      · rw [H.1] at h1; cases h1
  | succ fuel ih =>
    intro listed a C D hsz hbc hfree hr H
    have hnd := preDone_of_unlisted hip (mem_ready.1 hr).1
    unfold wpX
    rw [if_neg (by rw [hnd]; exact Bool.false_ne_true)]
    refine ⟨fun h => (by rw [h] at hr; cases hr), fun j hj => ⟨bar_lt hcl hbar hpre hsz hbc hj hnd, ?_⟩⟩
    by_cases hji : j = i
    · subst hji; exact H
    · have hjp := bar_lt hcl hbar hpre hsz hbc hj hnd
      have hj' := ready_mono hj hji
      obtain ⟨hjun, oj, hoj, hall⟩ := mem_ready.1 hj
      have hnot : ∀ e ∈ oj.after, Region.binds md e = true → e.on ≠ i := fun e he hb heq => by
        have h1 := hall e he hb
        have h0 := (mem_ready.1 hr).1
        rw [heq] at h1
        rcases Nat.lt_or_ge i listed.size with h' | h'
        · simp [h'] at h0 h1; rw [h0] at h1; cases h1
        · simp [Array.getElem?_eq_none h'] at h1
      have hfree' : ∀ k ok, ops[k]? = some ok → k ≠ i → (listed.setIfInBounds j true).getD k true = false →
          (∀ e ∈ ok.after, Region.binds md e = true → e.on ≠ i) → oi.apart ops ok = true := fun k ok hk hki hun hno => by
        refine hfree k ok hk hki ?_ hno
        by_cases hjk : j = k
        · subst hjk; exact hjun
        · rw [getD_set_ne true hjk] at hun; exact hun
      have hap := hfree j oj hoj hji hjun hnot
      obtain ⟨a1, a2, a3⟩ := Oper.apart_spec hap
      have hsi := fun cs b => Region.noSelect_spec hsel i oi cs b hi
      have hsj := fun cs b => Region.noSelect_spec hsel j oj cs b hoj
      have go : ∀ v D', wpX P md ops R1 R2 Cd kd Q pre (fuel + 1) (listed.setIfInBounds i true) (a.put oi.dst v) C D' → _ := fun v D' hx => by
        unfold wpX at hx
        rw [if_neg (by rw [preDone_of_unlisted hjp (mem_ready.1 hj').1]; exact Bool.false_ne_true)] at hx
        exact stepK_put hoj hap hsj (hx.2 j hj').2
      unfold stepK at H
      simp only [hi] at H
      have hwi : ∀ u, Region.wanted oi (yielded ops (a.put oj.dst u).tmps) = Region.wanted oi (yielded ops a.tmps) := fun u => wanted_put oi a oj.dst u a3
      have hcomm : (listed.setIfInBounds i true).setIfInBounds j true = (listed.setIfInBounds j true).setIfInBounds i true := Array.setIfInBounds_comm _ _ (Ne.symm hji)
      have fin : ∀ u C' D', stepK P ops R1 R2 Cd (kd i) i (wpX P md ops R1 R2 Cd kd Q pre fuel ((listed.setIfInBounds j true).setIfInBounds i true)) (a.put oj.dst u) C' D' →
          wpX P md ops R1 R2 Cd kd Q pre (fuel + 1) (listed.setIfInBounds j true) (a.put oj.dst u) C' D' := fun u C' D' hs =>
        ih (listed.setIfInBounds j true) _ C' D' (by simpa using hsz) (hbc.set hcl hsz hj) hfree' (ready_mono hr (Ne.symm hji)) hs
      unfold stepK
      simp only [hoj]
      by_cases hw : Region.wanted oi (yielded ops a.tmps) = true
      · simp only [hw, if_true, hal, Bool.false_eq_true, if_false] at H
        have hop : ∀ C' u, opS P R1 R2 Cd (kd i) oi (a.put oj.dst u) C' := fun C' u => by
          rw [opS_put hsi a3]
          have := H.1
          unfold opS at this ⊢
          simpa only [hal, Bool.false_eq_true, if_false] using this
        split
        · rename_i hwj
          refine ⟨((go _ _ (H.2 (kd i).w0 (kd i).hA)).1 hwj).1, fun u hu => fin u _ _ ?_⟩
          unfold stepK
          simp only [hi, hwi, hw, if_true]
          refine ⟨hop _ u, fun v hv => ?_⟩
          have h2 := ((go _ _ (H.2 v hv)).1 hwj).2 u hu
          rw [hcomm] at h2
          simp only [hal, Bool.false_eq_true, if_false]
          refine wpX_anti _ _ _ _ _ _ (fun w => ?_) h2
          cases (kd j).alone
          · exact fun ⟨⟨x, y⟩, z⟩ => ⟨⟨x, z⟩, y⟩
          · exact id
        · rename_i hwj
          refine fin undef _ _ ?_
          unfold stepK
          simp only [hi, hwi, hw, if_true]
          refine ⟨hop _ _, fun v hv => ?_⟩
          have h2 := (go _ _ (H.2 v hv)).2 (by simpa using hwj)
          rw [hcomm] at h2
          simp only [hal, Bool.false_eq_true, if_false]
          exact h2
      · simp only [hw] at H
        split
        · rename_i hwj
          refine ⟨((go _ _ H).1 hwj).1, fun u hu => fin u _ _ ?_⟩
          unfold stepK
          simp only [hi, hwi, hw]
          have h2 := ((go _ _ H).1 hwj).2 u hu
          rw [hcomm] at h2
          exact h2
        · rename_i hwj
          refine fin undef _ _ ?_
          unfold stepK
          simp only [hi, hwi, hw]
          have h2 := (go _ _ H).2 (by simpa using hwj)
          rw [hcomm] at h2
          exact h2

/-! ### The user's own order -/
def Stab (R1 R2 : World → World → Prop) (k : Kd) : Prop := (k.alone = true → ∀ v, Stable R1 (k.T v)) ∧ (k.alone = false → ∀ v, Stable R2 (k.T v))
theorem stab_det (v : Value) : Stab R1 R2 (Kd.det v) := ⟨(fun h => by cases h), fun _ _ _ _ _ _ => trivial⟩
def ordX (P : Program) (ops : Array Oper) (R1 R2 : World → World → Prop) (Cd : World → Prop) (Q : Exit → Act → World → Prop) (pre : Nat) : List (Nat × Kd) → Act → (World → Prop) → (World → Prop) → Prop
  | [], a, C, D => ∀ w, Cd w → C w → D w → wpList P ops Q (ops.toList.drop pre) a w
  | (i, k) :: rest, a, C, D => Stab R1 R2 k ∧ stepK P ops R1 R2 Cd k i (ordX P ops R1 R2 Cd Q pre rest) a C D

theorem ordX_anti : ∀ (l : List (Nat × Kd)) (a : Act) (C D D' : World → Prop), (∀ w, D' w → D w) → ordX P ops R1 R2 Cd Q pre l a C D → ordX P ops R1 R2 Cd Q pre l a C D'
  | [], a, C, D, D', hD, h => fun w h1 h2 h3 => h w h1 h2 (hD w h3)
  | (i, k) :: rest, a, C, D, D', hD, h => ⟨h.1, stepK_mono hD (fun a C D D' hD hk => ordX_anti rest a C D D' hD hk) h.2⟩
theorem ordX_stab : ∀ (l : List (Nat × Kd)) (a : Act) (C D : World → Prop), ordX P ops R1 R2 Cd Q pre l a C D → ∀ x ∈ l, Stab R1 R2 x.2
  | (i, k) :: rest, a, C, D, h, x, hx => by
    rcases List.mem_cons.1 hx with rfl | hx
    · exact h.1
    · have h2 := h.2
      unfold stepK at h2
      split at h2
      · exact ordX_stab rest _ _ _ h2 x hx
      · split at h2
        · exact ordX_stab rest _ _ _ (h2.2 k.w0 k.hA) x hx
        · exact ordX_stab rest _ _ _ h2 x hx

theorem wpX_of_ord {B : Nat → Nat → Bool} (hcl : closB md ops B = true) (hbar : barB ops B pre = true) (hpre : pre ≤ ops.size) (hsel : Region.noSelect ops = true) :
    ∀ (l : List (Nat × Kd)) (fuel : Nat) (listed : Array Bool) (a : Act) (C D : World → Prop), (∀ x ∈ l, kd x.1 = x.2) → listed.size = ops.size → BC ops B listed → l.length + (ops.size - pre) ≤ fuel →
      ordOk md ops pre (l.map fun x => (x.1, !x.2.alone)) listed = true → ordX P ops R1 R2 Cd Q pre l a C D → wpX P md ops R1 R2 Cd kd Q pre fuel listed a C D := by
  intro l
  induction l with
  | nil =>
    intro fuel listed a C D _ hsz hbc hf hB h
    simp only [List.map_nil, ordOk, Bool.and_eq_true, List.all_eq_true, List.mem_range, Bool.or_eq_true, decide_eq_true_eq, Bool.not_eq_true'] at hB
    obtain ⟨⟨hd, hu⟩, hc⟩ := hB
    have hdl : ∀ i, i < pre → listed.getD i true = true := fun i hi => List.all_eq_true.1 hd i (List.mem_range.2 hi)
    have hord : ∀ j, pre ≤ j → j < ops.size → ∃ o, ops[j]? = some o ∧ (∀ e ∈ o.after, Region.binds md e = true → e.on < j) ∧ (j = pre ∨ ∃ e ∈ o.after, Region.binds md e = true ∧ e.on = j - 1) := fun j hj hlt => by
      have := (hc j hlt).resolve_left (by omega)
      rw [Array.getElem?_eq_getElem hlt] at this
      simp only [Bool.and_eq_true, Bool.or_eq_true, decide_eq_true_eq, Array.all_eq_true_iff_forall_mem, Array.any_eq_true', Bool.not_eq_true', beq_iff_eq] at this
      refine ⟨ops[j], Array.getElem?_eq_getElem hlt, fun e he hb => ?_, ?_⟩
      · rcases this.1 e he with h1 | h1
        · rw [hb] at h1; cases h1
        · exact h1
      · rcases this.2 with h1 | ⟨e, he, h1, h2⟩
        · exact .inl h1
        · exact .inr ⟨e, he, h1, h2⟩
    have key : ∀ w, Cd w → C w → D w → wpAny P md ops Q fuel listed a w := fun w h1 h2 h3 =>
      wpAny_tail hord (ops.size - pre) pre fuel listed a w (by omega) (Nat.le_refl _) (by simpa using hf) hsz hdl (fun i h1 h2 => (hu i h2).resolve_left (by omega)) (h w h1 h2 h3)
    cases fuel with
    | zero =>
      refine ⟨?_, key⟩
      rw [List.eq_nil_iff_forall_not_mem]
      intro j hj
      obtain ⟨h0, o, ho, _⟩ := mem_ready.1 hj
      have hlt : j < ops.size := (Array.getElem?_eq_some_iff.1 ho).1
      rw [hdl j (by simp at hf; omega)] at h0
      cases h0
    | succ fuel => unfold wpX; rw [if_pos hd]; exact key
  | cons x rest ih =>
    obtain ⟨i, k⟩ := x
    intro fuel listed a C D hkd hsz hbc hf hB h
    obtain ⟨fuel, rfl⟩ : ∃ f, fuel = f + 1 := ⟨fuel - 1, by simp at hf; omega⟩
    have hki : kd i = k := hkd (i, k) (by simp)
    have hrest : ∀ x ∈ rest, kd x.1 = x.2 := fun x hx => hkd x (by simp [hx])
    have h' : stepK P ops R1 R2 Cd (kd i) i (ordX P ops R1 R2 Cd Q pre rest) a C D := by rw [hki]; exact h.2
    cases hal : k.alone with
    | false =>
      simp only [List.map_cons, hal, Bool.not_false, ordOk, Bool.and_eq_true, decide_eq_true_eq] at hB
      obtain ⟨⟨⟨hip, hr⟩, hfr⟩, hB'⟩ := hB
      have hr' : i ∈ Region.ready md ops listed := by simpa using hr
      obtain ⟨_, o, ho, _⟩ := mem_ready.1 hr'
      exact wpX_take hcl hbar hpre hsel ho hip (by rw [hki]; exact hal) fuel listed a C D hsz hbc (Region.free_spec ho hfr) hr'
        (stepK_mono (fun _ h => h) (fun a C D D' hD hk => wpX_anti _ _ _ _ _ _ hD (ih fuel _ a C D hrest (by simpa using hsz) (hbc.set hcl hsz hr') (by simp at hf; omega) hB' hk)) h')
    | true =>
      simp only [List.map_cons, hal, Bool.not_true, ordOk, Bool.and_eq_true, decide_eq_true_eq, beq_iff_eq] at hB
      obtain ⟨⟨hip, hr⟩, hB'⟩ := hB
      have hr' : i ∈ Region.ready md ops listed := by rw [hr]; simp
      unfold wpX
      rw [if_neg (by rw [preDone_of_unlisted hip (mem_ready.1 hr').1]; exact Bool.false_ne_true)]
      refine ⟨by rw [hr]; simp, fun j hj => ?_⟩
      rw [hr] at hj
      obtain rfl : j = i := by simpa using hj
      exact ⟨hip, stepK_mono (fun _ h => h) (fun a C D D' hD hk => wpX_anti _ _ _ _ _ _ hD (ih fuel _ a C D hrest (by simpa using hsz) (hbc.set hcl hsz hr') (by simp at hf; omega) hB' hk)) h'⟩

def kdOf (l : List (Nat × Kd)) (i : Nat) : Kd := ((l.find? fun x => x.1 == i).map (·.2)).getD (Kd.det undef)
theorem kdOf_mem : ∀ {l : List (Nat × Kd)}, (l.map (·.1)).Nodup → ∀ x ∈ l, kdOf l x.1 = x.2
  | y :: l, h, x, hx => by
    rw [List.map_cons, List.nodup_cons] at h
    unfold kdOf
    rcases List.mem_cons.1 hx with rfl | hx
    · simp
    · have hne : (y.1 == x.1) = false := beq_eq_false_iff_ne.2 fun e => h.1 (by rw [e]; exact List.mem_map.2 ⟨x, hx, rfl⟩)
      rw [List.find?_cons, hne]
      exact kdOf_mem h.2 x hx
theorem kdOf_all {p : Kd → Prop} {l : List (Nat × Kd)} (h0 : p (Kd.det undef)) (h : ∀ x ∈ l, p x.2) (i : Nat) : p (kdOf l i) := by
  unfold kdOf
  cases hf : l.find? fun x => x.1 == i with
  | none => exact h0
  | some x => exact h x (List.mem_of_find?_eq_some hf)

/-- A region that draws its order, walked in one chosen order. 'R1': what most operations keep; 'R2': what each one keeps; 'Cd': what 'R2' keeps; 'C': what is known besides, kept by 'R1'. -/
theorem wp_region_ordX {id : Nat} {a : Act} {w : World} (l : List (Nat × Kd)) (pre : Nat) (R1 R2 : World → World → Prop) (Cd C : World → Prop) (hm : P.follows .mixedOrders = true) (ix : List (Nat × Bool)) (hB : okB .any ops pre ix (befB ops) = true)
    (hix : l.map (fun x => (x.1, !x.2.alone)) = ix) (hnd : (ix.map (·.1)).Nodup) (sub : ∀ w w', R1 w w' → R2 w w') (hcd : Stable R2 Cd) (hs : Stable R1 C)
    (h1 : Cd { w with drawn := w.drawn + 1 }) (h2 : C { w with drawn := w.drawn + 1 }) (h : ordX P ops R1 R2 Cd Q pre l a C (fun _ => True)) : (Code.region id ops true).wp P Q a w := by
  subst hix
  simp only [okB, Bool.and_eq_true, decide_eq_true_eq] at hB
  obtain ⟨⟨⟨⟨⟨b1, b2⟩, b3⟩, b4⟩, b5⟩, b6⟩ := hB
  have hkd := ordX_stab _ _ _ _ h
  refine wp_region_any hm (wpAny_of_wpX (R1 := R1) (R2 := R2) (Cd := Cd) (kd := kdOf l) (pre := pre) ⟨sub, hcd, fun i => (kdOf_all (p := fun k => (k.alone = true → ∀ v, Stable R1 (k.T v)) ∧ (k.alone = false → ∀ v, Stable R2 (k.T v))) ⟨(fun h => by cases h), fun _ _ _ _ _ _ => trivial⟩ hkd i).1,
    fun i => (kdOf_all (p := fun k => (k.alone = true → ∀ v, Stable R1 (k.T v)) ∧ (k.alone = false → ∀ v, Stable R2 (k.T v))) ⟨(fun h => by cases h), fun _ _ _ _ _ _ => trivial⟩ hkd i).2⟩ _ _ _ C (fun _ => True) _ ?_ hs (fun _ _ _ _ => trivial) h1 h2 trivial)
  refine wpX_of_ord b1 b2 b3 b4 l _ _ a C _ (kdOf_mem (by rw [List.map_map] at hnd; exact hnd)) (by simp) (fun j i hj hi hl _ => ?_) (by rw [List.length_map] at b5; exact b5) b6 h
  simp [hj] at hl

/-! ### One step each -/
variable {C D : World → Prop} {rest : List (Nat × Kd)} {i : Nat} {a : Act} {o : Oper}
theorem ordX_det {a' : Act} {v : Value} (ho : ops[i]? = some o) (hg : o.guard = none) (h : ∀ w, Cd w → opR P o a w (fun u w' => R1 w w' ∧ u = v)) (ha : a.put o.dst v = a') (hn : ordX P ops R1 R2 Cd Q pre rest a' C D) :
    ordX P ops R1 R2 Cd Q pre ((i, Kd.det v) :: rest) a C D := by
  subst ha
  refine ⟨stab_det _, ?_⟩
  unfold stepK
  simp only [ho]
  rw [if_pos (by simp [Region.wanted, hg])]
  refine ⟨?_, fun u hu => ?_⟩
  · show ∀ w, Cd w → _
    exact fun w hw => opR_mono (fun u w' h => ⟨h.1, h.2, trivial⟩) (h w hw)
  · cases hu
    exact ordX_anti rest _ _ _ _ (fun w h => h.1) hn
theorem ordX_yes {a' : Act} {v : Value} (ho : ops[i]? = some o) (hg : Region.wanted o (yielded ops a.tmps) = true) (h : ∀ w, Cd w → opR P o a w (fun u w' => R1 w w' ∧ u = v)) (ha : a.put o.dst v = a') (hn : ordX P ops R1 R2 Cd Q pre rest a' C D) :
    ordX P ops R1 R2 Cd Q pre ((i, Kd.det v) :: rest) a C D := by
  subst ha
  refine ⟨stab_det _, ?_⟩
  unfold stepK
  simp only [ho]
  rw [if_pos hg]
  refine ⟨?_, fun u hu => ?_⟩
  · show ∀ w, Cd w → _
    exact fun w hw => opR_mono (fun u w' h => ⟨h.1, h.2, trivial⟩) (h w hw)
  · cases hu
    exact ordX_anti rest _ _ _ _ (fun w h => h.1) hn
theorem ordX_no {a' : Act} {v : Value} (ho : ops[i]? = some o) (hg : Region.wanted o (yielded ops a.tmps) = false) (ha : a.put o.dst undef = a') (hn : ordX P ops R1 R2 Cd Q pre rest a' C D) :
    ordX P ops R1 R2 Cd Q pre ((i, Kd.det v) :: rest) a C D := by
  subst ha
  refine ⟨stab_det _, ?_⟩
  unfold stepK
  simp only [ho]
  rw [if_neg (by simp [hg])]
  exact hn
theorem ordX_new {A : Value → Prop} {T : Value → World → Prop} {w0 : Value} {hA : A w0} {a' : Value → Act} (hst : ∀ v, Stable R2 (T v)) (ho : ops[i]? = some o) (hg : o.guard = none) (h : ∀ w, Cd w → opR P o a w (fun u w' => R1 w w' ∧ A u ∧ T u w')) (ha : ∀ v, a.put o.dst v = a' v)
    (hn : ∀ v, A v → ordX P ops R1 R2 Cd Q pre rest (a' v) C (fun w => D w ∧ T v w)) : ordX P ops R1 R2 Cd Q pre ((i, Kd.new A T w0 hA) :: rest) a C D := by
  refine ⟨⟨(fun h => by cases h), fun _ => hst⟩, ?_⟩
  unfold stepK
  simp only [ho]
  rw [if_pos (by simp [Region.wanted, hg])]
  exact ⟨h, fun v hv => by rw [ha]; exact hn v hv⟩
theorem ordX_one {A : Value → Prop} {T : Value → World → Prop} {w0 : Value} {hA : A w0} {a' : Value → Act} (hst : ∀ v, Stable R1 (T v)) (ho : ops[i]? = some o) (hg : o.guard = none) (h : ∀ w, Cd w → C w → opR P o a w (fun u w' => R2 w w' ∧ A u ∧ T u w')) (ha : ∀ v, a.put o.dst v = a' v)
    (hn : ∀ v, A v → ordX P ops R1 R2 Cd Q pre rest (a' v) (T v) D) : ordX P ops R1 R2 Cd Q pre ((i, Kd.one A T w0 hA) :: rest) a C D := by
  refine ⟨⟨fun _ => hst, (fun h => by cases h)⟩, ?_⟩
  unfold stepK
  simp only [ho]
  rw [if_pos (by simp [Region.wanted, hg])]
  exact ⟨h, fun v hv => by rw [ha]; exact hn v hv⟩
theorem ordX_nil {l : List Oper} (hl : ops.toList.drop pre = l) (h : ∀ w, Cd w → C w → D w → wpList P ops Q l a w) : ordX P ops R1 R2 Cd Q pre [] a C D := by
  show ∀ w, Cd w → C w → D w → wpList P ops Q (ops.toList.drop pre) a w
  rw [hl]; exact h
end
end Go.Sx
