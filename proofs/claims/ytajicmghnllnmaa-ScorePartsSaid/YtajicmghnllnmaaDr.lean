/-
  A law on regions that draw their order: any order is served by one chosen order, if each operation of the first 'pre' ones either has one value in every world of a class, or is alone ready; the rest runs in the text's order.
-/
import Derived.Orders
import Derived.Tactics
import Derived.Still
namespace Go.Sx

/-- What one operation's run hands on: its value, and the world behind it. -/
def uponR (P : Program) (K : Value → World → Prop) : Result Next → Prop
  | .ok (.value u) w' => K u w'
  | .ok .skip w' => K undef w'
  | .ok (.enter f args) w' => Calls P f args w' (fun e w'' => ∃ v, e = .returned v ∧ K v w'')
  | _ => False

def opR (P : Program) (o : Oper) (a : Act) (w : World) (K : Value → World → Prop) : Prop := uponR P K ((execOp a.eval o).run P w)

section
variable {P : Program} {ops : Array Oper} {Q : Exit → Act → World → Prop} {md : Region.Mode} {R : World → World → Prop} {pre : Nat}

theorem uponR_mono {K K' : Value → World → Prop} (h : ∀ v w, K v w → K' v w) {r : Result Next} (hr : uponR P K r) : uponR P K' r := by
  cases r with
  | ok n w' =>
    cases n <;> simp only [uponR] at hr ⊢
    · exact h _ _ hr
    · exact h _ _ hr
    · exact hr.mono fun e w'' ⟨v, he, hk⟩ => ⟨v, he, h _ _ hk⟩
  | halt x w' => exact hr.elim

theorem opR_mono {K K' : Value → World → Prop} {o : Oper} {a : Act} {w : World} (h : ∀ v w, K v w → K' v w) (hr : opR P o a w K) : opR P o a w K' := uponR_mono h hr

theorem opR_wp {K : Value → World → Prop} {o : Oper} {a : Act} {w : World} {next : Act → World → Prop} (h : opR P o a w K) (hn : ∀ v w', K v w' → next (a.put o.dst v) w') : o.wp P a w next Q := by
  unfold opR at h
  unfold Oper.wp
  generalize (execOp a.eval o).run P w = r at *
  cases r with
  | ok n w' =>
    cases n <;> simp only [uponR] at h <;> simp only [Oper.upon]
    · exact hn _ _ h
    · exact hn _ _ h
    · refine h.mono fun e w'' ⟨v, he, hk⟩ => ?_
      subst he
      exact hn _ _ hk
  | halt x w' => exact h.elim

def Stable (R : World → World → Prop) (C : World → Prop) : Prop := ∀ w w', C w → R w w' → C w'

/-- Operation number i, from any world of the class C: what it yields is told by Φ. -/
def ckOp (P : Program) (ops : Array Oper) (R : World → World → Prop) (i : Nat) (K : Act → (World → Prop) → Prop) (a : Act) (C : World → Prop) : Prop :=
  match ops[i]? with
  | none => K a C
  | some o =>
    if Region.wanted o (yielded ops a.tmps) then
      ∃ Φ : Value → World → Prop, (∀ v, Stable R (Φ v)) ∧ (∀ w, C w → opR P o a w (fun v w' => R w w' ∧ Φ v w')) ∧ ∀ v, (∃ w, C w ∧ Φ v w) → K (a.put o.dst v) (fun w => C w ∧ Φ v w)
    else K (a.put o.dst undef) C

def preDone (pre : Nat) (listed : Array Bool) : Bool := (List.range pre).all fun i => listed.getD i true

def wpK (P : Program) (md : Region.Mode) (ops : Array Oper) (R : World → World → Prop) (Q : Exit → Act → World → Prop) (pre : Nat) : Nat → Array Bool → Act → (World → Prop) → Prop
  | 0, listed, a, C => ∀ w, C w → wpAny P md ops Q 0 listed a w
  | fuel + 1, listed, a, C => (∃ w, C w) →
    if preDone pre listed then ∀ w, C w → wpAny P md ops Q (fuel + 1) listed a w
    else Region.ready md ops listed ≠ [] ∧ ∀ i ∈ Region.ready md ops listed, i < pre ∧ ckOp P ops R i (wpK P md ops R Q pre fuel (listed.setIfInBounds i true)) a C

theorem ckOp_anti {i : Nat} {K : Act → (World → Prop) → Prop} (hK : ∀ a C C', (∀ w, C' w → C w) → K a C → K a C') {a : Act} {C C' : World → Prop} (hC : ∀ w, C' w → C w) (h : ckOp P ops R i K a C) : ckOp P ops R i K a C' := by
  unfold ckOp at *
  split
  · rename_i ho; simp only [ho] at h; exact hK _ _ _ hC h
  · rename_i o ho
    simp only [ho] at h
    split
    · rename_i hw
      simp only [hw, if_true] at h
      obtain ⟨Φ, hs, hr, hk⟩ := h
      exact ⟨Φ, hs, fun w hw' => hr w (hC w hw'), fun v ⟨w, h1, h2⟩ => hK _ _ _ (fun w ⟨x, y⟩ => ⟨hC w x, y⟩) (hk v ⟨w, hC w h1, h2⟩)⟩
    · rename_i hw; simp only [hw] at h; exact hK _ _ _ hC h

theorem wpK_anti : ∀ (fuel : Nat) (listed : Array Bool) (a : Act) (C C' : World → Prop), (∀ w, C' w → C w) → wpK P md ops R Q pre fuel listed a C → wpK P md ops R Q pre fuel listed a C' := by
  intro fuel
  induction fuel with
  | zero => intro listed a C C' hC h w hw; exact h w (hC w hw)
  | succ fuel ih =>
    intro listed a C C' hC h hne
    have h' := h (hne.imp fun w hw => hC w hw)
    split
    · rename_i hd; simp only [hd, if_true] at h'; exact fun w hw => h' w (hC w hw)
    · rename_i hd
      simp only [hd] at h'
      exact ⟨h'.1, fun i hi => ⟨(h'.2 i hi).1, ckOp_anti (fun a C C' hC hk => ih _ a C C' hC hk) hC (h'.2 i hi).2⟩⟩

theorem wpOp_of_ckOp {i : Nat} {K : Act → (World → Prop) → Prop} {K' : Act → World → Prop} {a : Act} {C : World → Prop} {w : World} (hC : C w) (hs : Stable R C)
    (h : ckOp P ops R i K a C) (hk : ∀ a C w, K a C → Stable R C → C w → K' a w) : wpOp P ops Q i K' a w := by
  unfold ckOp at h
  unfold wpOp
  split
  · rename_i ho; simp only [ho] at h; exact hk _ _ _ h hs hC
  · rename_i o ho
    simp only [ho] at h
    split
    · rename_i hw
      simp only [hw, if_true] at h
      obtain ⟨Φ, hst, hr, hn⟩ := h
      refine .inl (opR_wp (hr w hC) fun v w' ⟨h1, h2⟩ => hk _ _ w' (hn v ⟨w', hs w w' hC h1, h2⟩) ?_ ⟨hs w w' hC h1, h2⟩)
      exact fun x y hx hxy => ⟨hs x y hx.1 hxy, hst v x y hx.2 hxy⟩
    · rename_i hw; simp only [hw] at h; exact hk _ _ _ h hs hC

theorem wpAny_of_wpK : ∀ (fuel : Nat) (listed : Array Bool) (a : Act) (C : World → Prop) (w : World), wpK P md ops R Q pre fuel listed a C → Stable R C → C w → wpAny P md ops Q fuel listed a w := by
  intro fuel
  induction fuel with
  | zero => intro listed a C w h _ hC; exact h w hC
  | succ fuel ih =>
    intro listed a C w h hs hC
    have h' := h ⟨w, hC⟩
    split at h'
    · exact h' w hC
    · exact ⟨fun h0 => absurd h0 h'.1, fun i hi => wpOp_of_ckOp hC hs (h'.2 i hi).2 (fun a C w hk hs hC => ih _ a C w hk hs hC)⟩

/-- In state a, in every world of C, operation o has the value v, and steps by R. -/
def Det (P : Program) (ops : Array Oper) (R : World → World → Prop) (C : World → Prop) (o : Oper) (v : Value) (a : Act) : Prop :=
  (Region.wanted o (yielded ops a.tmps) = true ∧ ∀ w, C w → opR P o a w (fun u w' => R w w' ∧ u = v)) ∨
  (Region.wanted o (yielded ops a.tmps) = false ∧ v = undef)

theorem Det.of_same {C C' : World → Prop} {o : Oper} {v : Value} {a a' : Act} (hC : ∀ w, C' w → C w) (hy : Det P ops R C o v a) (he : execOp a'.eval o = execOp a.eval o)
    (hw : Region.wanted o (yielded ops a'.tmps) = Region.wanted o (yielded ops a.tmps)) : Det P ops R C' o v a' := by
  unfold Det opR at *
  rw [he, hw]
  exact hy.imp (fun h => ⟨h.1, fun w h' => h.2 w (hC w h')⟩) id

theorem Det.ckOp {C : World → Prop} {i : Nat} {o : Oper} {v : Value} {a : Act} (hi : ops[i]? = some o) (hy : Det P ops R C o v a) {K : Act → (World → Prop) → Prop}
    (hK : ∀ a C C', (∀ w, C' w → C w) → K a C → K a C') (h : K (a.put o.dst v) C) : Sx.ckOp P ops R i K a C := by
  unfold Sx.ckOp
  simp only [hi]
  rcases hy with ⟨hw, hv⟩ | ⟨hw, rfl⟩
  · simp only [hw, if_true]
    refine ⟨fun u _ => u = v, fun u w w' h _ => h, hv, fun u ⟨w, _, he⟩ => ?_⟩
    subst he
    exact hK _ _ _ (fun w h => h.1) h
  · simp only [hw, Bool.false_eq_true, if_false]; exact h

/-- A closure of 'comes before': a set of pairs, each of which is an edge or goes over one. -/
def closB (md : Region.Mode) (ops : Array Oper) (B : Nat → Nat → Bool) : Bool :=
  (List.range ops.size).all fun j => (List.range ops.size).all fun i => !B j i || match ops[j]? with
    | some o => o.after.any fun e => Region.binds md e && (e.on == i || B e.on i)
    | none => false

/-- What is listed is closed under B. -/
def BC (ops : Array Oper) (B : Nat → Nat → Bool) (listed : Array Bool) : Prop := ∀ j i, j < ops.size → i < ops.size → listed.getD j true = true → B j i = true → listed.getD i true = true

theorem BC.ready {B : Nat → Nat → Bool} (hcl : closB md ops B = true) {listed : Array Bool} (hsz : listed.size = ops.size) (h : BC ops B listed) {j : Nat} (hj : j ∈ Region.ready md ops listed) {i : Nat} (hi : i < ops.size) (hB : B j i = true) : listed.getD i true = true := by
  obtain ⟨h0, o, ho, hall⟩ := mem_ready.1 hj
  have hlt : j < ops.size := (Array.getElem?_eq_some_iff.1 ho).1
  have hc : ∀ i, i < ops.size → B j i = true → o.after.any (fun e => Region.binds md e && (e.on == i || B e.on i)) = true := fun i hi hB => by
    have := List.all_eq_true.1 (List.all_eq_true.1 hcl j (List.mem_range.2 hlt)) i (List.mem_range.2 hi)
    simpa [ho, hB] using this
  obtain ⟨e, he, hb⟩ := Array.any_eq_true'.1 (hc i hi hB)
  simp only [Bool.and_eq_true, Bool.or_eq_true, beq_iff_eq] at hb
  have hl := hall e he hb.1
  have hlt' : e.on < listed.size := by
    rcases Nat.lt_or_ge e.on listed.size with h' | h'
    · exact h'
    · simp [Array.getElem?_eq_none h'] at hl
  have hl' : listed.getD e.on true = true := by simpa [hlt'] using hl
  rcases hb.2 with rfl | hb2
  · exact hl'
  · exact h e.on i (by omega) hi hl' hb2

theorem BC.set {B : Nat → Nat → Bool} (hcl : closB md ops B = true) {listed : Array Bool} (hsz : listed.size = ops.size) (h : BC ops B listed) {j : Nat} (hj : j ∈ Region.ready md ops listed) : BC ops B (listed.setIfInBounds j true) := by
  intro k i hk hi hl hB
  by_cases hkj : j = k
  · subst hkj
    have := BC.ready hcl hsz h hj hi hB
    by_cases hji : j = i
    · subst hji; simp
    · rw [getD_set_ne true hji]; exact this
  · rw [getD_set_ne true hkj] at hl
    have := h k i hk hi hl hB
    by_cases hji : j = i
    · subst hji; simp
    · rw [getD_set_ne true hji]; exact this

/-- Behind 'pre' each operation waits for all of the first ones. -/
def barB (ops : Array Oper) (B : Nat → Nat → Bool) (pre : Nat) : Bool :=
  (List.range ops.size).all fun j => decide (j < pre) || (List.range pre).all fun i => B j i

theorem bar_lt {B : Nat → Nat → Bool} (hcl : closB md ops B = true) (hbar : barB ops B pre = true) (hpre : pre ≤ ops.size) {listed : Array Bool} (hsz : listed.size = ops.size) (h : BC ops B listed) {j : Nat} (hj : j ∈ Region.ready md ops listed)
    (hnd : preDone pre listed = false) : j < pre := by
  obtain ⟨h0, o, ho, _⟩ := mem_ready.1 hj
  have hlt : j < ops.size := (Array.getElem?_eq_some_iff.1 ho).1
  rcases Nat.lt_or_ge j pre with h' | h'
  · exact h'
  · have hb := List.all_eq_true.1 hbar j (List.mem_range.2 hlt)
    have hb' : ∀ i, i < pre → B j i = true := fun i hi => by
      have : (List.range pre).all (fun i => B j i) = true := by simpa [Nat.not_lt.2 h'] using hb
      exact List.all_eq_true.1 this i (List.mem_range.2 hi)
    have : preDone pre listed = true := List.all_eq_true.2 fun i hi => BC.ready hcl hsz h hj (Nat.lt_of_lt_of_le (List.mem_range.1 hi) hpre) (hb' i (List.mem_range.1 hi))
    rw [this] at hnd
    cases hnd

theorem preDone_of_unlisted {listed : Array Bool} {i : Nat} (hi : i < pre) (hu : listed.getD i true = false) : preDone pre listed = false := by
  rw [← Bool.not_eq_true]
  intro h
  have := List.all_eq_true.1 h i (List.mem_range.2 hi)
  rw [hu] at this
  cases this

theorem ckOp_put {j : Nat} {oi oj : Oper} {v : Value} (hj : ops[j]? = some oj) (hap : oi.apart ops oj = true)
    (hsi : ∀ cs b, oi.op ≠ .select cs b) (hsj : ∀ cs b, oj.op ≠ .select cs b) {C : World → Prop} {K : Act → (World → Prop) → Prop} {K' : Act → (World → Prop) → Prop} {a : Act}
    (hy : Det P ops R C oi v a) (h : ckOp P ops R j K (a.put oi.dst v) C)
    (hk : ∀ a' C', (∀ w, C' w → C w) → Det P ops R C' oi v a' → K (a'.put oi.dst v) C' → K' a' C') :
    ckOp P ops R j K' a C := by
  obtain ⟨h1, h2, h3⟩ := Oper.apart_spec hap
  have keep : ∀ (C' : World → Prop) (u : Value), (∀ w, C' w → C w) → Det P ops R C' oi v (a.put oj.dst u) := fun C' u hC =>
    hy.of_same hC (execOp_put oi hsi a oj.dst u h3) (wanted_put oi a oj.dst u h3)
  unfold ckOp at *
  simp only [hj] at *
  rw [wanted_put oj a oi.dst v h1] at h
  split
  · rename_i hw
    simp only [hw, if_true] at h
    obtain ⟨Φ, hs, hr, hn⟩ := h
    refine ⟨Φ, hs, fun w hw' => ?_, fun u hu => hk _ _ (fun w h => h.1) (keep _ u (fun w h => h.1)) (by rw [← Act.put_comm a v u h2]; exact hn u hu)⟩
    have := hr w hw'
    unfold opR at *
    rwa [execOp_put oj hsj a oi.dst v h1] at this
  · rename_i hw
    simp only [hw] at h
    exact hk _ _ (fun w h => h) (keep _ _ (fun w h => h)) (by rw [← Act.put_comm a v undef h2]; exact h)

/-- An operation with one value may be taken first. -/
theorem wpK_take {B : Nat → Nat → Bool} (hcl : closB md ops B = true) (hbar : barB ops B pre = true) (hpre : pre ≤ ops.size) (hsel : Region.noSelect ops = true) {i : Nat} {oi : Oper} {v : Value} (hi : ops[i]? = some oi) (hip : i < pre) :
    ∀ (fuel : Nat) (listed : Array Bool) (a : Act) (C : World → Prop), listed.size = ops.size → BC ops B listed →
      (∀ j oj, ops[j]? = some oj → j ≠ i → listed.getD j true = false → (∀ e ∈ oj.after, Region.binds md e = true → e.on ≠ i) → oi.apart ops oj = true) →
      i ∈ Region.ready md ops listed → Det P ops R C oi v a →
      wpK P md ops R Q pre fuel (listed.setIfInBounds i true) (a.put oi.dst v) C → wpK P md ops R Q pre (fuel + 1) listed a C := by
  intro fuel
  induction fuel with
  | zero =>
    intro listed a C hsz hbc _ hr hy H hne
    rw [if_neg (by rw [preDone_of_unlisted hip (mem_ready.1 hr).1]; exact Bool.false_ne_true)]
    refine ⟨fun h => (by rw [h] at hr; cases hr), fun j hj => ⟨bar_lt hcl hbar hpre hsz hbc hj (preDone_of_unlisted hip (mem_ready.1 hr).1), ?_⟩⟩
    by_cases hji : j = i
    · subst hji; exact hy.ckOp hi (fun a C C' hC hk => wpK_anti _ _ _ _ _ hC hk) H
    · obtain ⟨w, hw⟩ := hne
      have h1 := ready_mono hj hji
      rw [(H w hw).1] at h1
      cases h1
  | succ fuel ih =>
    intro listed a C hsz hbc hfree hr hy H hne
    have hnd := preDone_of_unlisted hip (mem_ready.1 hr).1
    rw [if_neg (by rw [hnd]; exact Bool.false_ne_true)]
    refine ⟨fun h => (by rw [h] at hr; cases hr), fun j hj => ⟨bar_lt hcl hbar hpre hsz hbc hj hnd, ?_⟩⟩
    by_cases hji : j = i
    · subst hji; exact hy.ckOp hi (fun a C C' hC hk => wpK_anti _ _ _ _ _ hC hk) H
    · have H' := H hne
      have hjp := bar_lt hcl hbar hpre hsz hbc hj hnd
      have hj' := ready_mono hj hji
      rw [if_neg (by rw [preDone_of_unlisted hjp (mem_ready.1 hj').1]; exact Bool.false_ne_true)] at H'
      have h1 := (H'.2 j hj').2
      obtain ⟨hjun, oj, hoj, hall⟩ := mem_ready.1 hj
      have hnot : ∀ e ∈ oj.after, Region.binds md e = true → e.on ≠ i := fun e he hb heq => by
        have h1 := hall e he hb
        have h0 := (mem_ready.1 hr).1
        rw [heq] at h1
        rcases Nat.lt_or_ge i listed.size with h' | h'
        · simp [h'] at h0 h1; rw [h0] at h1; cases h1
        · simp [Array.getElem?_eq_none h'] at h1
      have hfree' : ∀ k ok, ops[k]? = some ok → k ≠ i → (listed.setIfInBounds j true).getD k true = false →
          (∀ e ∈ ok.after, Region.binds md e = true → e.on ≠ i) → oi.apart ops ok = true := fun k ok hk hki hun hno => by
        refine hfree k ok hk hki ?_ hno
        by_cases hjk : j = k
        · subst hjk; exact hjun
        · rw [getD_set_ne true hjk] at hun; exact hun
      refine ckOp_put hoj (hfree j oj hoj hji hjun hnot) (fun cs b => Region.noSelect_spec hsel i oi cs b hi) (fun cs b => Region.noSelect_spec hsel j oj cs b hoj) hy h1 (fun a' C' hC' hy' hk' => ?_)
      refine ih (listed.setIfInBounds j true) a' C' (by simpa using hsz) (hbc.set hcl hsz hj) hfree' (ready_mono hr (Ne.symm hji)) hy' ?_
      rw [Array.setIfInBounds_comm _ _ hji]
      exact hk'

/-! ### The user's own order -/

/-- The chosen order: (i, true): operation i has one value; (i, false): it is the only one that may come up. -/
def ordOk (md : Region.Mode) (ops : Array Oper) (pre : Nat) : List (Nat × Bool) → Array Bool → Bool
  | [], listed => preDone pre listed && (List.range ops.size).all (fun i => decide (i < pre) || !(listed.getD i true)) &&
      (List.range ops.size).all (fun j => decide (j < pre) || (match ops[j]? with
        | some o => (o.after.all fun e => !Region.binds md e || decide (e.on < j)) && (decide (j = pre) || o.after.any fun e => Region.binds md e && e.on == j - 1)
        | none => false))
  | (i, true) :: rest, listed => decide (i < pre) && (Region.ready md ops listed).contains i && Region.free md ops listed i && ordOk md ops pre rest (listed.setIfInBounds i true)
  | (i, false) :: rest, listed => decide (i < pre) && (Region.ready md ops listed == [i]) && ordOk md ops pre rest (listed.setIfInBounds i true)

def wpOrd (P : Program) (ops : Array Oper) (R : World → World → Prop) (Q : Exit → Act → World → Prop) (pre : Nat) : List (Nat × Bool) → Act → (World → Prop) → Prop
  | [], a, C => ∀ w, C w → wpList P ops Q (ops.toList.drop pre) a w
  | (i, true) :: rest, a, C => ∃ o v, ops[i]? = some o ∧ Det P ops R C o v a ∧ wpOrd P ops R Q pre rest (a.put o.dst v) C
  | (i, false) :: rest, a, C => ckOp P ops R i (wpOrd P ops R Q pre rest) a C

/-- The rest runs in the text's order. -/
theorem wpAny_tail (hord : ∀ j, pre ≤ j → j < ops.size → ∃ o, ops[j]? = some o ∧ (∀ e ∈ o.after, Region.binds md e = true → e.on < j) ∧ (j = pre ∨ ∃ e ∈ o.after, Region.binds md e = true ∧ e.on = j - 1)) :
    ∀ (n k fuel : Nat) (listed : Array Bool) (a : Act) (w : World), k + n = ops.size → pre ≤ k → n ≤ fuel → listed.size = ops.size → (∀ i, i < k → listed.getD i true = true) → (∀ i, k ≤ i → i < ops.size → listed.getD i true = false) →
      wpList P ops Q (ops.toList.drop k) a w → wpAny P md ops Q fuel listed a w := by
  intro n
  induction n with
  | zero =>
    intro k fuel listed a w hk _ _ hsz hl _ h
    have hr : Region.ready md ops listed = [] := by
      rw [List.eq_nil_iff_forall_not_mem]
      intro j hj
      obtain ⟨h0, o, ho, _⟩ := mem_ready.1 hj
      have hlt : j < ops.size := (Array.getElem?_eq_some_iff.1 ho).1
      rw [hl j (by omega)] at h0
      cases h0
    have hq : Q .normal a w := by
      rw [List.drop_eq_nil_of_le (by simp; omega)] at h
      exact h
    cases fuel with
    | zero => exact ⟨hr, hq⟩
    | succ fuel => exact ⟨fun _ => hq, fun i hi => by rw [hr] at hi; cases hi⟩
  | succ n ih =>
    intro k fuel listed a w hk hpk hnf hsz hl hu h
    obtain ⟨fuel, rfl⟩ : ∃ f, fuel = f + 1 := ⟨fuel - 1, by omega⟩
    have hklt : k < ops.size := by omega
    obtain ⟨o, ho, hedge, _⟩ := hord k hpk hklt
    have getF : ∀ i, i < ops.size → listed.getD i false = listed.getD i true := fun i hi => by
      have : i < listed.size := by omega
      simp [this]
    have hkr : k ∈ Region.ready md ops listed := mem_ready.2 ⟨hu k (Nat.le_refl _) hklt, o, ho, fun e he hb => by
      have h1 := hedge e he hb
      rw [getF _ (by omega)]
      exact hl _ h1⟩
    refine ⟨fun h0 => (by rw [h0] at hkr; cases hkr), fun j hj => ?_⟩
    obtain ⟨h0, oj, hoj, hall⟩ := mem_ready.1 hj
    have hjlt : j < ops.size := (Array.getElem?_eq_some_iff.1 hoj).1
    have hkj : k ≤ j := by
      rcases Nat.lt_or_ge j k with h' | h'
      · rw [hl j h'] at h0; cases h0
      · exact h'
    have hjk : j = k := by
      obtain ⟨o', ho', _, hc⟩ := hord j (by omega) hjlt
      rw [hoj] at ho'
      cases ho'
      rcases hc with hc | ⟨e, he, hb, heq⟩
      · omega
      · rcases Nat.lt_or_eq_of_le hkj with h' | h'
        · have h1 := hall e he hb
          rw [heq, getF _ (by omega), hu (j - 1) (by omega) (by omega)] at h1
          cases h1
        · exact h'.symm
    subst hjk
    have hd : ops.toList.drop j = o :: ops.toList.drop (j + 1) := by
      rw [List.drop_eq_getElem_cons (by simpa using hjlt)]
      congr 1
      have := (Array.getElem?_eq_some_iff.1 ho).2
      simpa using this
    rw [hd] at h
    unfold wpList at h
    unfold wpOp
    rw [hoj] at ho
    cases ho
    simp only [hoj]
    have next : ∀ a w, wpList P ops Q (ops.toList.drop (j + 1)) a w → wpAny P md ops Q fuel (listed.setIfInBounds j true) a w := fun a w h' =>
      ih (j + 1) fuel (listed.setIfInBounds j true) a w (by omega) (by omega) (by omega) (by simpa using hsz)
        (fun i hi => by
          by_cases hij : j = i
          · subst hij; simp
          · rw [getD_set_ne true hij]; exact hl i (by omega))
        (fun i h1 h2 => by rw [getD_set_ne true (by omega)]; exact hu i (by omega) h2) h'
    split
    · rename_i hw
      rw [if_pos hw] at h
      exact h.imp (Oper.wp_mono next) id
    · rename_i hw
      rw [if_neg hw] at h
      exact next _ _ h

theorem wpK_of_ord {B : Nat → Nat → Bool} (hcl : closB md ops B = true) (hbar : barB ops B pre = true) (hpre : pre ≤ ops.size) (hsel : Region.noSelect ops = true) :
    ∀ (l : List (Nat × Bool)) (fuel : Nat) (listed : Array Bool) (a : Act) (C : World → Prop), listed.size = ops.size → BC ops B listed → l.length + (ops.size - pre) ≤ fuel →
      ordOk md ops pre l listed = true → wpOrd P ops R Q pre l a C → wpK P md ops R Q pre fuel listed a C := by
  intro l
  induction l with
  | nil =>
    intro fuel listed a C hsz hbc hf hB h
    simp only [ordOk, Bool.and_eq_true, List.all_eq_true, List.mem_range, Bool.or_eq_true, decide_eq_true_eq, Bool.not_eq_true'] at hB
    obtain ⟨⟨hd, hu⟩, hc⟩ := hB
    have hdl : ∀ i, i < pre → listed.getD i true = true := fun i hi => List.all_eq_true.1 hd i (List.mem_range.2 hi)
    have hord : ∀ j, pre ≤ j → j < ops.size → ∃ o, ops[j]? = some o ∧ (∀ e ∈ o.after, Region.binds md e = true → e.on < j) ∧ (j = pre ∨ ∃ e ∈ o.after, Region.binds md e = true ∧ e.on = j - 1) := fun j hj hlt => by
      have := (hc j hlt).resolve_left (by omega)
      rw [Array.getElem?_eq_getElem hlt] at this
      simp only [Bool.and_eq_true, Bool.or_eq_true, decide_eq_true_eq, Array.all_eq_true_iff_forall_mem, Array.any_eq_true', Bool.not_eq_true', beq_iff_eq] at this
      refine ⟨ops[j], Array.getElem?_eq_getElem hlt, fun e he hb => ?_, ?_⟩
      · rcases this.1 e he with h1 | h1
        · rw [hb] at h1; cases h1
        · exact h1
      · rcases this.2 with h1 | ⟨e, he, h1, h2⟩
        · exact .inl h1
        · exact .inr ⟨e, he, h1, h2⟩
    have key : ∀ w, C w → wpAny P md ops Q fuel listed a w := fun w hw =>
      wpAny_tail hord (ops.size - pre) pre fuel listed a w (by omega) (Nat.le_refl _) (by simpa using hf) hsz hdl (fun i h1 h2 => (hu i h2).resolve_left (by omega)) (h w hw)
    cases fuel with
    | zero => exact key
    | succ fuel => exact fun _ => by rw [if_pos hd]; exact key
  | cons x rest ih =>
    obtain ⟨i, b⟩ := x
    intro fuel listed a C hsz hbc hf hB h
    obtain ⟨fuel, rfl⟩ : ∃ f, fuel = f + 1 := ⟨fuel - 1, by simp at hf; omega⟩
    cases b with
    | true =>
      simp only [ordOk, Bool.and_eq_true, decide_eq_true_eq] at hB
      obtain ⟨⟨⟨hip, hr⟩, hfr⟩, hB'⟩ := hB
      obtain ⟨o, v, ho, hy, hn⟩ := h
      have hr' : i ∈ Region.ready md ops listed := by simpa using hr
      exact wpK_take hcl hbar hpre hsel ho hip fuel listed a C hsz hbc (Region.free_spec ho hfr) hr' hy
        (ih fuel _ _ _ (by simpa using hsz) (hbc.set hcl hsz hr') (by simp at hf; omega) hB' hn)
    | false =>
      simp only [ordOk, Bool.and_eq_true, decide_eq_true_eq, beq_iff_eq] at hB
      obtain ⟨⟨hip, hr⟩, hB'⟩ := hB
      have hr' : i ∈ Region.ready md ops listed := by rw [hr]; simp
      intro hne
      rw [if_neg (by rw [preDone_of_unlisted hip (mem_ready.1 hr').1]; exact Bool.false_ne_true)]
      refine ⟨by rw [hr]; simp, fun j hj => ?_⟩
      rw [hr] at hj
      obtain rfl : j = i := by simpa using hj
      refine ⟨hip, ?_⟩
      have h' : ckOp P ops R j (wpOrd P ops R Q pre rest) a C := h
      have hk : ∀ a C, wpOrd P ops R Q pre rest a C → wpK P md ops R Q pre fuel (listed.setIfInBounds j true) a C := fun a C hn =>
        ih fuel _ a C (by simpa using hsz) (hbc.set hcl hsz hr') (by simp at hf; omega) hB' hn
      unfold ckOp at *
      split
      · rename_i ho; simp only [ho] at h'; exact hk _ _ h'
      · rename_i o ho
        simp only [ho] at h'
        split
        · rename_i hw
          simp only [hw, if_true] at h'
          obtain ⟨Φ, h1, h2, h3⟩ := h'
          exact ⟨Φ, h1, h2, fun v hv => hk _ _ (h3 v hv)⟩
        · rename_i hw; simp only [hw] at h'; exact hk _ _ h'

def okB (md : Region.Mode) (ops : Array Oper) (pre : Nat) (l : List (Nat × Bool)) (B : Nat → Nat → Bool) : Bool :=
  closB md ops B && barB ops B pre && decide (pre ≤ ops.size) && Region.noSelect ops && decide (l.length + (ops.size - pre) ≤ ops.size) && ordOk md ops pre l (Array.replicate ops.size false)

def befB (ops : Array Oper) : Nat → Nat → Bool :=
  let b := Region.before ops
  fun j i => (b.getD j 0).testBit i

/-- A region that draws its order, walked in one chosen order. -/
theorem wp_region_ord {id : Nat} {a : Act} {w : World} (l : List (Nat × Bool)) (pre : Nat) (R : World → World → Prop) (C : World → Prop) (hm : P.follows .mixedOrders = true) (hB : okB .any ops pre l (befB ops) = true)
    (hs : Stable R C) (hC : C { w with drawn := w.drawn + 1 }) (h : wpOrd P ops R Q pre l a C) : (Code.region id ops true).wp P Q a w := by
  simp only [okB, Bool.and_eq_true, decide_eq_true_eq] at hB
  obtain ⟨⟨⟨⟨⟨h1, h2⟩, h3⟩, h4⟩, h5⟩, h6⟩ := hB
  refine wp_region_any hm (wpAny_of_wpK (R := R) (pre := pre) _ _ _ C _ ?_ hs hC)
  refine wpK_of_ord h1 h2 h3 h4 l _ _ a C (by simp) (fun j i hj hi hl _ => ?_) h5 h6 h
  simp [hj] at hl

theorem wpOrd_det {i : Nat} {rest : List (Nat × Bool)} {a a' : Act} {C : World → Prop} {o : Oper} {v : Value} (ho : ops[i]? = some o) (hg : o.guard = none)
    (h : ∀ w, C w → opR P o a w (fun u w' => R w w' ∧ u = v)) (ha : a.put o.dst v = a') (hn : wpOrd P ops R Q pre rest a' C) : wpOrd P ops R Q pre ((i, true) :: rest) a C := by
  subst ha
  exact ⟨o, v, ho, .inl ⟨by simp [Region.wanted, hg], h⟩, hn⟩

/-- A guarded operation: its guard is decided. -/
theorem wpOrd_yes {i : Nat} {rest : List (Nat × Bool)} {a a' : Act} {C : World → Prop} {o : Oper} {v : Value} (ho : ops[i]? = some o) (hg : Region.wanted o (yielded ops a.tmps) = true)
    (h : ∀ w, C w → opR P o a w (fun u w' => R w w' ∧ u = v)) (ha : a.put o.dst v = a') (hn : wpOrd P ops R Q pre rest a' C) : wpOrd P ops R Q pre ((i, true) :: rest) a C := by
  subst ha
  exact ⟨o, v, ho, .inl ⟨hg, h⟩, hn⟩
theorem wpOrd_no {i : Nat} {rest : List (Nat × Bool)} {a a' : Act} {C : World → Prop} {o : Oper} (ho : ops[i]? = some o) (hg : Region.wanted o (yielded ops a.tmps) = false)
    (ha : a.put o.dst undef = a') (hn : wpOrd P ops R Q pre rest a' C) : wpOrd P ops R Q pre ((i, true) :: rest) a C := by
  subst ha
  exact ⟨o, undef, ho, .inr ⟨hg, rfl⟩, hn⟩

/-- An operation that is alone ready: what it yields is told by Φ. -/
theorem wpOrd_ex {i : Nat} {rest : List (Nat × Bool)} {a : Act} {C : World → Prop} {o : Oper} (ho : ops[i]? = some o) (hg : o.guard = none) (Φ : Value → World → Prop) (hs : ∀ v, Stable R (Φ v))
    {a' : Value → Act} (h : ∀ w, C w → opR P o a w (fun u w' => R w w' ∧ Φ u w')) (ha : ∀ v, a.put o.dst v = a' v) (hn : ∀ v, wpOrd P ops R Q pre rest (a' v) (fun w => C w ∧ Φ v w)) : wpOrd P ops R Q pre ((i, false) :: rest) a C := by
  show ckOp P ops R i _ a C
  unfold ckOp
  simp only [ho]
  rw [if_pos (by simp [Region.wanted, hg])]
  exact ⟨Φ, hs, h, fun v _ => by rw [ha]; exact hn v⟩

/-- A call of a named Go function. -/
theorem opR_call {o : Oper} {a : Act} {w : World} {K : Value → World → Prop} {f : FuncId} {xs : Array Operand} {ts : Array TypeId} {args : Array Value} (ho : o.op = .call { callee := .value (.func f), args := xs, argTypes := ts })
    (he : ∀ args w, (callFunc f args).run P w = .ok (.enter f args) w) (hx : xs.map a.eval = args) (h : Calls P f args w (fun e w'' => ∃ v, e = .returned v ∧ K v w'')) : opR P o a w K := by
  subst hx
  have hr : (execOp a.eval o).run P w = .ok (.enter f (xs.map a.eval)) w := by
    unfold execOp
    simp only [ho, resolve, Act.eval, Deferred.ofValue, Sem.run_bind, Sem.run_pure, Result.andThen_ok, invoke, Array.append_empty, Array.empty_append]
    exact he _ _
  unfold opR
  rw [hr]
  exact h

theorem wpOrd_nil {a : Act} {C : World → Prop} {l : List Oper} (hl : ops.toList.drop pre = l) (h : ∀ w, C w → wpList P ops Q l a w) : wpOrd P ops R Q pre [] a C := by
  show ∀ w, C w → wpList P ops Q (ops.toList.drop pre) a w
  rw [hl]; exact h

end
end Go.Sx
