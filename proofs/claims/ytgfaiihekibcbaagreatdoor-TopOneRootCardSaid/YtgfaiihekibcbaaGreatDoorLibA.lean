/-
  Libraries of these proofs, laid as one text: Dr, Dx, Dy, Dz, Lib, Rg, Rgn, Rgf, Rgw, Kb, Dri.
-/
import Derived.Orders
import Derived.Tactics
import Derived.Still
import Derived.WalkKit
import Derived.WalkSpells
import Derived.WalkLawsBesides
import Derived.Lib.Hide
import Derived.Shelf.Abstract
import Derived.RangeFuncNested
import Derived.RangeFuncBound
import Derived.RangeFuncCalls
import Derived.RangeFuncLeaves
import Derived.Shelf.RegionOpen
import Derived.OwnWalkIn
import Derived.TacticsInMore
import Derived.LoopNIn
import Derived.LoopIn
import Derived.RangeFuncWrites
import Derived.Laws.CopyOwn
/-
  A law on regions that draw their order: any order is served by one chosen order, if each operation of the first 'pre' ones either has one value in every world of a class, or is alone ready; the rest runs in the text's order.
-/
namespace Go.Sx

/-- What one operation's run hands on: its value, and the world behind it. -/
def uponR (P : Program) (K : Value → World → Prop) : Result Next → Prop
  | .ok (.value u) w' => K u w'
  | .ok .skip w' => K undef w'
  | .ok (.enter f args) w' => Calls P f args w' (fun e w'' => ∃ v, e = .returned v ∧ K v w'')
  | _ => False

def opR (P : Program) (o : Oper) (a : Act) (w : World) (K : Value → World → Prop) : Prop := uponR P K ((execOp a.eval o).run P w)

section
variable {P : Program} {ops : Array Oper} {Q : Exit → Act → World → Prop} {md : Region.Mode} {R : World → World → Prop} {pre : Nat}

theorem uponR_mono {K K' : Value → World → Prop} (h : ∀ v w, K v w → K' v w) {r : Result Next} (hr : uponR P K r) : uponR P K' r := by
  cases r with
  | ok n w' =>
    cases n <;> simp only [uponR] at hr ⊢
    · exact h _ _ hr
    · exact h _ _ hr
    · exact hr.mono fun e w'' ⟨v, he, hk⟩ => ⟨v, he, h _ _ hk⟩
  | halt x w' => exact hr.elim

theorem opR_mono {K K' : Value → World → Prop} {o : Oper} {a : Act} {w : World} (h : ∀ v w, K v w → K' v w) (hr : opR P o a w K) : opR P o a w K' := uponR_mono h hr

theorem opR_wp {K : Value → World → Prop} {o : Oper} {a : Act} {w : World} {next : Act → World → Prop} (h : opR P o a w K) (hn : ∀ v w', K v w' → next (a.put o.dst v) w') : o.wp P a w next Q := by
  unfold opR at h
  unfold Oper.wp
  generalize (execOp a.eval o).run P w = r at *
  cases r with
  | ok n w' =>
    cases n <;> simp only [uponR] at h <;> simp only [Oper.upon]
    · exact hn _ _ h
    · exact hn _ _ h
    · refine h.mono fun e w'' ⟨v, he, hk⟩ => ?_
      subst he
      exact hn _ _ hk
  | halt x w' => exact h.elim

def Stable (R : World → World → Prop) (C : World → Prop) : Prop := ∀ w w', C w → R w w' → C w'

/-- Operation number i, from any world of the class C: what it yields is told by Φ. -/
def ckOp (P : Program) (ops : Array Oper) (R : World → World → Prop) (i : Nat) (K : Act → (World → Prop) → Prop) (a : Act) (C : World → Prop) : Prop :=
  match ops[i]? with
  | none => K a C
  | some o =>
    if Region.wanted o (yielded ops a.tmps) then
      ∃ Φ : Value → World → Prop, (∀ v, Stable R (Φ v)) ∧ (∀ w, C w → opR P o a w (fun v w' => R w w' ∧ Φ v w')) ∧ ∀ v, (∃ w, C w ∧ Φ v w) → K (a.put o.dst v) (fun w => C w ∧ Φ v w)
    else K (a.put o.dst undef) C

def preDone (pre : Nat) (listed : Array Bool) : Bool := (List.range pre).all fun i => listed.getD i true

def wpK (P : Program) (md : Region.Mode) (ops : Array Oper) (R : World → World → Prop) (Q : Exit → Act → World → Prop) (pre : Nat) : Nat → Array Bool → Act → (World → Prop) → Prop
  | 0, listed, a, C => ∀ w, C w → wpAny P md ops Q 0 listed a w
  | fuel + 1, listed, a, C => (∃ w, C w) →
    if preDone pre listed then ∀ w, C w → wpAny P md ops Q (fuel + 1) listed a w
    else Region.ready md ops listed ≠ [] ∧ ∀ i ∈ Region.ready md ops listed, i < pre ∧ ckOp P ops R i (wpK P md ops R Q pre fuel (listed.setIfInBounds i true)) a C

theorem ckOp_anti {i : Nat} {K : Act → (World → Prop) → Prop} (hK : ∀ a C C', (∀ w, C' w → C w) → K a C → K a C') {a : Act} {C C' : World → Prop} (hC : ∀ w, C' w → C w) (h : ckOp P ops R i K a C) : ckOp P ops R i K a C' := by
  unfold ckOp at *
  split
  · rename_i ho; simp only [ho] at h; exact hK _ _ _ hC h
  · rename_i o ho
    simp only [ho] at h
    split
    · rename_i hw
      simp only [hw, if_true] at h
      obtain ⟨Φ, hs, hr, hk⟩ := h
      exact ⟨Φ, hs, fun w hw' => hr w (hC w hw'), fun v ⟨w, h1, h2⟩ => hK _ _ _ (fun w ⟨x, y⟩ => ⟨hC w x, y⟩) (hk v ⟨w, hC w h1, h2⟩)⟩
    · rename_i hw; simp only [hw] at h; exact hK _ _ _ hC h

theorem wpK_anti : ∀ (fuel : Nat) (listed : Array Bool) (a : Act) (C C' : World → Prop), (∀ w, C' w → C w) → wpK P md ops R Q pre fuel listed a C → wpK P md ops R Q pre fuel listed a C' := by
  intro fuel
  induction fuel with
  | zero => intro listed a C C' hC h w hw; exact h w (hC w hw)
  | succ fuel ih =>
    intro listed a C C' hC h hne
    have h' := h (hne.imp fun w hw => hC w hw)
    split
    · rename_i hd; simp only [hd, if_true] at h'; exact fun w hw => h' w (hC w hw)
    · rename_i hd
      simp only [hd] at h'
      exact ⟨h'.1, fun i hi => ⟨(h'.2 i hi).1, ckOp_anti (fun a C C' hC hk => ih _ a C C' hC hk) hC (h'.2 i hi).2⟩⟩

theorem wpOp_of_ckOp {i : Nat} {K : Act → (World → Prop) → Prop} {K' : Act → World → Prop} {a : Act} {C : World → Prop} {w : World} (hC : C w) (hs : Stable R C)
    (h : ckOp P ops R i K a C) (hk : ∀ a C w, K a C → Stable R C → C w → K' a w) : wpOp P ops Q i K' a w := by
  unfold ckOp at h
  unfold wpOp
  split
  · rename_i ho; simp only [ho] at h; exact hk _ _ _ h hs hC
  · rename_i o ho
    simp only [ho] at h
    split
    · rename_i hw
      simp only [hw, if_true] at h
      obtain ⟨Φ, hst, hr, hn⟩ := h
      refine .inl (opR_wp (hr w hC) fun v w' ⟨h1, h2⟩ => hk _ _ w' (hn v ⟨w', hs w w' hC h1, h2⟩) ?_ ⟨hs w w' hC h1, h2⟩)
      exact fun x y hx hxy => ⟨hs x y hx.1 hxy, hst v x y hx.2 hxy⟩
    · rename_i hw; simp only [hw] at h; exact hk _ _ _ h hs hC

theorem wpAny_of_wpK : ∀ (fuel : Nat) (listed : Array Bool) (a : Act) (C : World → Prop) (w : World), wpK P md ops R Q pre fuel listed a C → Stable R C → C w → wpAny P md ops Q fuel listed a w := by
  intro fuel
  induction fuel with
  | zero => intro listed a C w h _ hC; exact h w hC
  | succ fuel ih =>
    intro listed a C w h hs hC
    have h' := h ⟨w, hC⟩
    split at h'
    · exact h' w hC
    · exact ⟨fun h0 => absurd h0 h'.1, fun i hi => wpOp_of_ckOp hC hs (h'.2 i hi).2 (fun a C w hk hs hC => ih _ a C w hk hs hC)⟩

/-- In state a, in every world of C, operation o has the value v, and steps by R. -/
def Det (P : Program) (ops : Array Oper) (R : World → World → Prop) (C : World → Prop) (o : Oper) (v : Value) (a : Act) : Prop :=
  (Region.wanted o (yielded ops a.tmps) = true ∧ ∀ w, C w → opR P o a w (fun u w' => R w w' ∧ u = v)) ∨
  (Region.wanted o (yielded ops a.tmps) = false ∧ v = undef)

theorem Det.of_same {C C' : World → Prop} {o : Oper} {v : Value} {a a' : Act} (hC : ∀ w, C' w → C w) (hy : Det P ops R C o v a) (he : execOp a'.eval o = execOp a.eval o)
    (hw : Region.wanted o (yielded ops a'.tmps) = Region.wanted o (yielded ops a.tmps)) : Det P ops R C' o v a' := by
  unfold Det opR at *
  rw [he, hw]
  exact hy.imp (fun h => ⟨h.1, fun w h' => h.2 w (hC w h')⟩) id

theorem Det.ckOp {C : World → Prop} {i : Nat} {o : Oper} {v : Value} {a : Act} (hi : ops[i]? = some o) (hy : Det P ops R C o v a) {K : Act → (World → Prop) → Prop}
    (hK : ∀ a C C', (∀ w, C' w → C w) → K a C → K a C') (h : K (a.put o.dst v) C) : Sx.ckOp P ops R i K a C := by
  unfold Sx.ckOp
  simp only [hi]
  rcases hy with ⟨hw, hv⟩ | ⟨hw, rfl⟩
  · simp only [hw, if_true]
    refine ⟨fun u _ => u = v, fun u w w' h _ => h, hv, fun u ⟨w, _, he⟩ => ?_⟩
    subst he
    exact hK _ _ _ (fun w h => h.1) h
  · simp only [hw, Bool.false_eq_true, if_false]; exact h

/-- A closure of 'comes before': a set of pairs, each of which is an edge or goes over one. -/
def closB (md : Region.Mode) (ops : Array Oper) (B : Nat → Nat → Bool) : Bool :=
  (List.range ops.size).all fun j => (List.range ops.size).all fun i => !B j i || match ops[j]? with
    | some o => o.after.any fun e => Region.binds md e && (e.on == i || B e.on i)
    | none => false

/-- What is listed is closed under B. -/
def BC (ops : Array Oper) (B : Nat → Nat → Bool) (listed : Array Bool) : Prop := ∀ j i, j < ops.size → i < ops.size → listed.getD j true = true → B j i = true → listed.getD i true = true

theorem BC.ready {B : Nat → Nat → Bool} (hcl : closB md ops B = true) {listed : Array Bool} (hsz : listed.size = ops.size) (h : BC ops B listed) {j : Nat} (hj : j ∈ Region.ready md ops listed) {i : Nat} (hi : i < ops.size) (hB : B j i = true) : listed.getD i true = true := by
  obtain ⟨h0, o, ho, hall⟩ := mem_ready.1 hj
  have hlt : j < ops.size := (Array.getElem?_eq_some_iff.1 ho).1
  have hc : ∀ i, i < ops.size → B j i = true → o.after.any (fun e => Region.binds md e && (e.on == i || B e.on i)) = true := fun i hi hB => by
    have := List.all_eq_true.1 (List.all_eq_true.1 hcl j (List.mem_range.2 hlt)) i (List.mem_range.2 hi)
    simpa [ho, hB] using this
  obtain ⟨e, he, hb⟩ := Array.any_eq_true'.1 (hc i hi hB)
  simp only [Bool.and_eq_true, Bool.or_eq_true, beq_iff_eq] at hb
  have hl := hall e he hb.1
  have hlt' : e.on < listed.size := by
    rcases Nat.lt_or_ge e.on listed.size with h' | h'
    · exact h'
    · simp [Array.getElem?_eq_none h'] at hl
  have hl' : listed.getD e.on true = true := by simpa [hlt'] using hl
  rcases hb.2 with rfl | hb2
  · exact hl'
  · exact h e.on i (by omega) hi hl' hb2

theorem BC.set {B : Nat → Nat → Bool} (hcl : closB md ops B = true) {listed : Array Bool} (hsz : listed.size = ops.size) (h : BC ops B listed) {j : Nat} (hj : j ∈ Region.ready md ops listed) : BC ops B (listed.setIfInBounds j true) := by
  intro k i hk hi hl hB
  by_cases hkj : j = k
  · subst hkj
    have := BC.ready hcl hsz h hj hi hB
    by_cases hji : j = i
    · subst hji; simp
    · rw [getD_set_ne true hji]; exact this
  · rw [getD_set_ne true hkj] at hl
    have := h k i hk hi hl hB
    by_cases hji : j = i
    · subst hji; simp
    · rw [getD_set_ne true hji]; exact this

/-- Behind 'pre' each operation waits for all of the first ones. -/
def barB (ops : Array Oper) (B : Nat → Nat → Bool) (pre : Nat) : Bool :=
  (List.range ops.size).all fun j => decide (j < pre) || (List.range pre).all fun i => B j i

theorem bar_lt {B : Nat → Nat → Bool} (hcl : closB md ops B = true) (hbar : barB ops B pre = true) (hpre : pre ≤ ops.size) {listed : Array Bool} (hsz : listed.size = ops.size) (h : BC ops B listed) {j : Nat} (hj : j ∈ Region.ready md ops listed)
    (hnd : preDone pre listed = false) : j < pre := by
  obtain ⟨h0, o, ho, _⟩ := mem_ready.1 hj
  have hlt : j < ops.size := (Array.getElem?_eq_some_iff.1 ho).1
  rcases Nat.lt_or_ge j pre with h' | h'
  · exact h'
  · have hb := List.all_eq_true.1 hbar j (List.mem_range.2 hlt)
    have hb' : ∀ i, i < pre → B j i = true := fun i hi => by
      have : (List.range pre).all (fun i => B j i) = true := by simpa [Nat.not_lt.2 h'] using hb
      exact List.all_eq_true.1 this i (List.mem_range.2 hi)
    have : preDone pre listed = true := List.all_eq_true.2 fun i hi => BC.ready hcl hsz h hj (Nat.lt_of_lt_of_le (List.mem_range.1 hi) hpre) (hb' i (List.mem_range.1 hi))
    rw [this] at hnd
    cases hnd

theorem preDone_of_unlisted {listed : Array Bool} {i : Nat} (hi : i < pre) (hu : listed.getD i true = false) : preDone pre listed = false := by
  rw [← Bool.not_eq_true]
  intro h
  have := List.all_eq_true.1 h i (List.mem_range.2 hi)
  rw [hu] at this
  cases this

theorem ckOp_put {j : Nat} {oi oj : Oper} {v : Value} (hj : ops[j]? = some oj) (hap : oi.apart ops oj = true)
    (hsi : ∀ cs b, oi.op ≠ .select cs b) (hsj : ∀ cs b, oj.op ≠ .select cs b) {C : World → Prop} {K : Act → (World → Prop) → Prop} {K' : Act → (World → Prop) → Prop} {a : Act}
    (hy : Det P ops R C oi v a) (h : ckOp P ops R j K (a.put oi.dst v) C)
    (hk : ∀ a' C', (∀ w, C' w → C w) → Det P ops R C' oi v a' → K (a'.put oi.dst v) C' → K' a' C') :
    ckOp P ops R j K' a C := by
  obtain ⟨h1, h2, h3⟩ := Oper.apart_spec hap
  have keep : ∀ (C' : World → Prop) (u : Value), (∀ w, C' w → C w) → Det P ops R C' oi v (a.put oj.dst u) := fun C' u hC =>
    hy.of_same hC (execOp_put oi hsi a oj.dst u h3) (wanted_put oi a oj.dst u h3)
  unfold ckOp at *
  simp only [hj] at *
  rw [wanted_put oj a oi.dst v h1] at h
  split
  · rename_i hw
    simp only [hw, if_true] at h
    obtain ⟨Φ, hs, hr, hn⟩ := h
    refine ⟨Φ, hs, fun w hw' => ?_, fun u hu => hk _ _ (fun w h => h.1) (keep _ u (fun w h => h.1)) (by rw [← Act.put_comm a v u h2]; exact hn u hu)⟩
    have := hr w hw'
    unfold opR at *
    rwa [execOp_put oj hsj a oi.dst v h1] at this
  · rename_i hw
    simp only [hw] at h
    exact hk _ _ (fun w h => h) (keep _ _ (fun w h => h)) (by rw [← Act.put_comm a v undef h2]; exact h)

/-- An operation with one value may be taken first. -/
theorem wpK_take {B : Nat → Nat → Bool} (hcl : closB md ops B = true) (hbar : barB ops B pre = true) (hpre : pre ≤ ops.size) (hsel : Region.noSelect ops = true) {i : Nat} {oi : Oper} {v : Value} (hi : ops[i]? = some oi) (hip : i < pre) :
    ∀ (fuel : Nat) (listed : Array Bool) (a : Act) (C : World → Prop), listed.size = ops.size → BC ops B listed →
      (∀ j oj, ops[j]? = some oj → j ≠ i → listed.getD j true = false → (∀ e ∈ oj.after, Region.binds md e = true → e.on ≠ i) → oi.apart ops oj = true) →
      i ∈ Region.ready md ops listed → Det P ops R C oi v a →
      wpK P md ops R Q pre fuel (listed.setIfInBounds i true) (a.put oi.dst v) C → wpK P md ops R Q pre (fuel + 1) listed a C := by
  intro fuel
  induction fuel with
  | zero =>
    intro listed a C hsz hbc _ hr hy H hne
    rw [if_neg (by rw [preDone_of_unlisted hip (mem_ready.1 hr).1]; exact Bool.false_ne_true)]
    refine ⟨fun h => (by rw [h] at hr; cases hr), fun j hj => ⟨bar_lt hcl hbar hpre hsz hbc hj (preDone_of_unlisted hip (mem_ready.1 hr).1), ?_⟩⟩
    by_cases hji : j = i
    · subst hji; exact hy.ckOp hi (fun a C C' hC hk => wpK_anti _ _ _ _ _ hC hk) H
    · obtain ⟨w, hw⟩ := hne
      have h1 := ready_mono hj hji
      rw [(H w hw).1] at h1
      cases h1
  | succ fuel ih =>
    intro listed a C hsz hbc hfree hr hy H hne
    have hnd := preDone_of_unlisted hip (mem_ready.1 hr).1
    rw [if_neg (by rw [hnd]; exact Bool.false_ne_true)]
    refine ⟨fun h => (by rw [h] at hr; cases hr), fun j hj => ⟨bar_lt hcl hbar hpre hsz hbc hj hnd, ?_⟩⟩
    by_cases hji : j = i
    · subst hji; exact hy.ckOp hi (fun a C C' hC hk => wpK_anti _ _ _ _ _ hC hk) H
    · have H' := H hne
      have hjp := bar_lt hcl hbar hpre hsz hbc hj hnd
      have hj' := ready_mono hj hji
      rw [if_neg (by rw [preDone_of_unlisted hjp (mem_ready.1 hj').1]; exact Bool.false_ne_true)] at H'
      have h1 := (H'.2 j hj').2
      obtain ⟨hjun, oj, hoj, hall⟩ := mem_ready.1 hj
      have hnot : ∀ e ∈ oj.after, Region.binds md e = true → e.on ≠ i := fun e he hb heq => by
        have h1 := hall e he hb
        have h0 := (mem_ready.1 hr).1
        rw [heq] at h1
        rcases Nat.lt_or_ge i listed.size with h' | h'
        · simp [h'] at h0 h1; rw [h0] at h1; cases h1
        · simp [Array.getElem?_eq_none h'] at h1
      have hfree' : ∀ k ok, ops[k]? = some ok → k ≠ i → (listed.setIfInBounds j true).getD k true = false →
          (∀ e ∈ ok.after, Region.binds md e = true → e.on ≠ i) → oi.apart ops ok = true := fun k ok hk hki hun hno => by
        refine hfree k ok hk hki ?_ hno
        by_cases hjk : j = k
        · subst hjk; exact hjun
        · rw [getD_set_ne true hjk] at hun; exact hun
      refine ckOp_put hoj (hfree j oj hoj hji hjun hnot) (fun cs b => Region.noSelect_spec hsel i oi cs b hi) (fun cs b => Region.noSelect_spec hsel j oj cs b hoj) hy h1 (fun a' C' hC' hy' hk' => ?_)
      refine ih (listed.setIfInBounds j true) a' C' (by simpa using hsz) (hbc.set hcl hsz hj) hfree' (ready_mono hr (Ne.symm hji)) hy' ?_
      rw [Array.setIfInBounds_comm _ _ hji]
      exact hk'

/-! ### The user's own order -/

/-- The chosen order: (i, true): operation i has one value; (i, false): it is the only one that may come up. -/
def ordOk (md : Region.Mode) (ops : Array Oper) (pre : Nat) : List (Nat × Bool) → Array Bool → Bool
  | [], listed => preDone pre listed && (List.range ops.size).all (fun i => decide (i < pre) || !(listed.getD i true)) &&
      (List.range ops.size).all (fun j => decide (j < pre) || (match ops[j]? with
        | some o => (o.after.all fun e => !Region.binds md e || decide (e.on < j)) && (decide (j = pre) || o.after.any fun e => Region.binds md e && e.on == j - 1)
        | none => false))
  | (i, true) :: rest, listed => decide (i < pre) && (Region.ready md ops listed).contains i && Region.free md ops listed i && ordOk md ops pre rest (listed.setIfInBounds i true)
  | (i, false) :: rest, listed => decide (i < pre) && (Region.ready md ops listed == [i]) && ordOk md ops pre rest (listed.setIfInBounds i true)

def wpOrd (P : Program) (ops : Array Oper) (R : World → World → Prop) (Q : Exit → Act → World → Prop) (pre : Nat) : List (Nat × Bool) → Act → (World → Prop) → Prop
  | [], a, C => ∀ w, C w → wpList P ops Q (ops.toList.drop pre) a w
  | (i, true) :: rest, a, C => ∃ o v, ops[i]? = some o ∧ Det P ops R C o v a ∧ wpOrd P ops R Q pre rest (a.put o.dst v) C
  | (i, false) :: rest, a, C => ckOp P ops R i (wpOrd P ops R Q pre rest) a C

/-- The rest runs in the text's order. -/
theorem wpAny_tail (hord : ∀ j, pre ≤ j → j < ops.size → ∃ o, ops[j]? = some o ∧ (∀ e ∈ o.after, Region.binds md e = true → e.on < j) ∧ (j = pre ∨ ∃ e ∈ o.after, Region.binds md e = true ∧ e.on = j - 1)) :
    ∀ (n k fuel : Nat) (listed : Array Bool) (a : Act) (w : World), k + n = ops.size → pre ≤ k → n ≤ fuel → listed.size = ops.size → (∀ i, i < k → listed.getD i true = true) → (∀ i, k ≤ i → i < ops.size → listed.getD i true = false) →
      wpList P ops Q (ops.toList.drop k) a w → wpAny P md ops Q fuel listed a w := by
  intro n
  induction n with
  | zero =>
    intro k fuel listed a w hk _ _ hsz hl _ h
    have hr : Region.ready md ops listed = [] := by
      rw [List.eq_nil_iff_forall_not_mem]
      intro j hj
      obtain ⟨h0, o, ho, _⟩ := mem_ready.1 hj
      have hlt : j < ops.size := (Array.getElem?_eq_some_iff.1 ho).1
      rw [hl j (by omega)] at h0
      cases h0
    have hq : Q .normal a w := by
      rw [List.drop_eq_nil_of_le (by simp; omega)] at h
      exact h
    cases fuel with
    | zero => exact ⟨hr, hq⟩
    | succ fuel => exact ⟨fun _ => hq, fun i hi => by rw [hr] at hi; cases hi⟩
  | succ n ih =>
    intro k fuel listed a w hk hpk hnf hsz hl hu h
    obtain ⟨fuel, rfl⟩ : ∃ f, fuel = f + 1 := ⟨fuel - 1, by omega⟩
    have hklt : k < ops.size := by omega
    obtain ⟨o, ho, hedge, _⟩ := hord k hpk hklt
    have getF : ∀ i, i < ops.size → listed.getD i false = listed.getD i true := fun i hi => by
      have : i < listed.size := by omega
      simp [this]
    have hkr : k ∈ Region.ready md ops listed := mem_ready.2 ⟨hu k (Nat.le_refl _) hklt, o, ho, fun e he hb => by
      have h1 := hedge e he hb
      rw [getF _ (by omega)]
      exact hl _ h1⟩
    refine ⟨fun h0 => (by rw [h0] at hkr; cases hkr), fun j hj => ?_⟩
    obtain ⟨h0, oj, hoj, hall⟩ := mem_ready.1 hj
    have hjlt : j < ops.size := (Array.getElem?_eq_some_iff.1 hoj).1
    have hkj : k ≤ j := by
      rcases Nat.lt_or_ge j k with h' | h'
      · rw [hl j h'] at h0; cases h0
      · exact h'
    have hjk : j = k := by
      obtain ⟨o', ho', _, hc⟩ := hord j (by omega) hjlt
      rw [hoj] at ho'
      cases ho'
      rcases hc with hc | ⟨e, he, hb, heq⟩
      · omega
      · rcases Nat.lt_or_eq_of_le hkj with h' | h'
        · have h1 := hall e he hb
          rw [heq, getF _ (by omega), hu (j - 1) (by omega) (by omega)] at h1
          cases h1
        · exact h'.symm
    subst hjk
    have hd : ops.toList.drop j = o :: ops.toList.drop (j + 1) := by
      rw [List.drop_eq_getElem_cons (by simpa using hjlt)]
      congr 1
      have := (Array.getElem?_eq_some_iff.1 ho).2
      simpa using this
    rw [hd] at h
    unfold wpList at h
    unfold wpOp
    rw [hoj] at ho
    cases ho
    simp only [hoj]
    have next : ∀ a w, wpList P ops Q (ops.toList.drop (j + 1)) a w → wpAny P md ops Q fuel (listed.setIfInBounds j true) a w := fun a w h' =>
      ih (j + 1) fuel (listed.setIfInBounds j true) a w (by omega) (by omega) (by omega) (by simpa using hsz)
        (fun i hi => by
          by_cases hij : j = i
          · subst hij; simp
          · rw [getD_set_ne true hij]; exact hl i (by omega))
        (fun i h1 h2 => by rw [getD_set_ne true (by omega)]; exact hu i (by omega) h2) h'
    split
    · rename_i hw
      rw [if_pos hw] at h
      exact h.imp (Oper.wp_mono next) id
    · rename_i hw
      rw [if_neg hw] at h
      exact next _ _ h

theorem wpK_of_ord {B : Nat → Nat → Bool} (hcl : closB md ops B = true) (hbar : barB ops B pre = true) (hpre : pre ≤ ops.size) (hsel : Region.noSelect ops = true) :
    ∀ (l : List (Nat × Bool)) (fuel : Nat) (listed : Array Bool) (a : Act) (C : World → Prop), listed.size = ops.size → BC ops B listed → l.length + (ops.size - pre) ≤ fuel →
      ordOk md ops pre l listed = true → wpOrd P ops R Q pre l a C → wpK P md ops R Q pre fuel listed a C := by
  intro l
  induction l with
  | nil =>
    intro fuel listed a C hsz hbc hf hB h
    simp only [ordOk, Bool.and_eq_true, List.all_eq_true, List.mem_range, Bool.or_eq_true, decide_eq_true_eq, Bool.not_eq_true'] at hB
    obtain ⟨⟨hd, hu⟩, hc⟩ := hB
    have hdl : ∀ i, i < pre → listed.getD i true = true := fun i hi => List.all_eq_true.1 hd i (List.mem_range.2 hi)
    have hord : ∀ j, pre ≤ j → j < ops.size → ∃ o, ops[j]? = some o ∧ (∀ e ∈ o.after, Region.binds md e = true → e.on < j) ∧ (j = pre ∨ ∃ e ∈ o.after, Region.binds md e = true ∧ e.on = j - 1) := fun j hj hlt => by
      have := (hc j hlt).resolve_left (by omega)
      rw [Array.getElem?_eq_getElem hlt] at this
      simp only [Bool.and_eq_true, Bool.or_eq_true, decide_eq_true_eq, Array.all_eq_true_iff_forall_mem, Array.any_eq_true', Bool.not_eq_true', beq_iff_eq] at this
      refine ⟨ops[j], Array.getElem?_eq_getElem hlt, fun e he hb => ?_, ?_⟩
      · rcases this.1 e he with h1 | h1
        · rw [hb] at h1; cases h1
        · exact h1
      · rcases this.2 with h1 | ⟨e, he, h1, h2⟩
        · exact .inl h1
        · exact .inr ⟨e, he, h1, h2⟩
    have key : ∀ w, C w → wpAny P md ops Q fuel listed a w := fun w hw =>
      wpAny_tail hord (ops.size - pre) pre fuel listed a w (by omega) (Nat.le_refl _) (by simpa using hf) hsz hdl (fun i h1 h2 => (hu i h2).resolve_left (by omega)) (h w hw)
    cases fuel with
    | zero => exact key
    | succ fuel => exact fun _ => by rw [if_pos hd]; exact key
  | cons x rest ih =>
    obtain ⟨i, b⟩ := x
    intro fuel listed a C hsz hbc hf hB h
    obtain ⟨fuel, rfl⟩ : ∃ f, fuel = f + 1 := ⟨fuel - 1, by simp at hf; omega⟩
    cases b with
    | true =>
      simp only [ordOk, Bool.and_eq_true, decide_eq_true_eq] at hB
      obtain ⟨⟨⟨hip, hr⟩, hfr⟩, hB'⟩ := hB
      obtain ⟨o, v, ho, hy, hn⟩ := h
      have hr' : i ∈ Region.ready md ops listed := by simpa using hr
      exact wpK_take hcl hbar hpre hsel ho hip fuel listed a C hsz hbc (Region.free_spec ho hfr) hr' hy
        (ih fuel _ _ _ (by simpa using hsz) (hbc.set hcl hsz hr') (by simp at hf; omega) hB' hn)
    | false =>
      simp only [ordOk, Bool.and_eq_true, decide_eq_true_eq, beq_iff_eq] at hB
      obtain ⟨⟨hip, hr⟩, hB'⟩ := hB
      have hr' : i ∈ Region.ready md ops listed := by rw [hr]; simp
      intro hne
      rw [if_neg (by rw [preDone_of_unlisted hip (mem_ready.1 hr').1]; exact Bool.false_ne_true)]
      refine ⟨by rw [hr]; simp, fun j hj => ?_⟩
      rw [hr] at hj
      obtain rfl : j = i := by simpa using hj
      refine ⟨hip, ?_⟩
      have h' : ckOp P ops R j (wpOrd P ops R Q pre rest) a C := h
      have hk : ∀ a C, wpOrd P ops R Q pre rest a C → wpK P md ops R Q pre fuel (listed.setIfInBounds j true) a C := fun a C hn =>
        ih fuel _ a C (by simpa using hsz) (hbc.set hcl hsz hr') (by simp at hf; omega) hB' hn
      unfold ckOp at *
      split
      · rename_i ho; simp only [ho] at h'; exact hk _ _ h'
      · rename_i o ho
        simp only [ho] at h'
        split
        · rename_i hw
          simp only [hw, if_true] at h'
          obtain ⟨Φ, h1, h2, h3⟩ := h'
          exact ⟨Φ, h1, h2, fun v hv => hk _ _ (h3 v hv)⟩
        · rename_i hw; simp only [hw] at h'; exact hk _ _ h'

def okB (md : Region.Mode) (ops : Array Oper) (pre : Nat) (l : List (Nat × Bool)) (B : Nat → Nat → Bool) : Bool :=
  closB md ops B && barB ops B pre && decide (pre ≤ ops.size) && Region.noSelect ops && decide (l.length + (ops.size - pre) ≤ ops.size) && ordOk md ops pre l (Array.replicate ops.size false)

def befB (ops : Array Oper) : Nat → Nat → Bool :=
  let b := Region.before ops
  fun j i => (b.getD j 0).testBit i

/-- A region that draws its order, walked in one chosen order. -/
theorem wp_region_ord {id : Nat} {a : Act} {w : World} (l : List (Nat × Bool)) (pre : Nat) (R : World → World → Prop) (C : World → Prop) (hm : P.follows .mixedOrders = true) (hB : okB .any ops pre l (befB ops) = true)
    (hs : Stable R C) (hC : C { w with drawn := w.drawn + 1 }) (h : wpOrd P ops R Q pre l a C) : (Code.region id ops true).wp P Q a w := by
  simp only [okB, Bool.and_eq_true, decide_eq_true_eq] at hB
  obtain ⟨⟨⟨⟨⟨h1, h2⟩, h3⟩, h4⟩, h5⟩, h6⟩ := hB
  refine wp_region_any hm (wpAny_of_wpK (R := R) (pre := pre) _ _ _ C _ ?_ hs hC)
  refine wpK_of_ord h1 h2 h3 h4 l _ _ a C (by simp) (fun j i hj hi hl _ => ?_) h5 h6 h
  simp [hj] at hl

theorem wpOrd_det {i : Nat} {rest : List (Nat × Bool)} {a a' : Act} {C : World → Prop} {o : Oper} {v : Value} (ho : ops[i]? = some o) (hg : o.guard = none)
    (h : ∀ w, C w → opR P o a w (fun u w' => R w w' ∧ u = v)) (ha : a.put o.dst v = a') (hn : wpOrd P ops R Q pre rest a' C) : wpOrd P ops R Q pre ((i, true) :: rest) a C := by
  subst ha
  exact ⟨o, v, ho, .inl ⟨by simp [Region.wanted, hg], h⟩, hn⟩

/-- A guarded operation: its guard is decided. -/
theorem wpOrd_yes {i : Nat} {rest : List (Nat × Bool)} {a a' : Act} {C : World → Prop} {o : Oper} {v : Value} (ho : ops[i]? = some o) (hg : Region.wanted o (yielded ops a.tmps) = true)
    (h : ∀ w, C w → opR P o a w (fun u w' => R w w' ∧ u = v)) (ha : a.put o.dst v = a') (hn : wpOrd P ops R Q pre rest a' C) : wpOrd P ops R Q pre ((i, true) :: rest) a C := by
  subst ha
  exact ⟨o, v, ho, .inl ⟨hg, h⟩, hn⟩
theorem wpOrd_no {i : Nat} {rest : List (Nat × Bool)} {a a' : Act} {C : World → Prop} {o : Oper} (ho : ops[i]? = some o) (hg : Region.wanted o (yielded ops a.tmps) = false)
    (ha : a.put o.dst undef = a') (hn : wpOrd P ops R Q pre rest a' C) : wpOrd P ops R Q pre ((i, true) :: rest) a C := by
  subst ha
  exact ⟨o, undef, ho, .inr ⟨hg, rfl⟩, hn⟩

/-- A call of a named Go function. -/
theorem opR_call {o : Oper} {a : Act} {w : World} {K : Value → World → Prop} {f : FuncId} {xs : Array Operand} {ts : Array TypeId} {args : Array Value} (ho : o.op = .call { callee := .value (.func f), args := xs, argTypes := ts })
    (he : ∀ args w, (callFunc f args).run P w = .ok (.enter f args) w) (hx : xs.map a.eval = args) (h : Calls P f args w (fun e w'' => ∃ v, e = .returned v ∧ K v w'')) : opR P o a w K := by
  subst hx
  have hr : (execOp a.eval o).run P w = .ok (.enter f (xs.map a.eval)) w := by
    unfold execOp
    simp only [ho, resolve, Act.eval, Deferred.ofValue, Sem.run_bind, Sem.run_pure, Result.andThen_ok, invoke, Array.append_empty, Array.empty_append]
    exact he _ _
  unfold opR
  rw [hr]
  exact h

theorem wpOrd_nil {a : Act} {C : World → Prop} {l : List Oper} (hl : ops.toList.drop pre = l) (h : ∀ w, C w → wpList P ops Q l a w) : wpOrd P ops R Q pre [] a C := by
  show ∀ w, C w → wpList P ops Q (ops.toList.drop pre) a w
  rw [hl]; exact h

end
end Go.Sx

/-
  A second law on regions that draw their order: besides operations with one value, such as yield a new thing in any world of a class (a call that makes a row, a literal), and such as are alone ready and may write into what the class 'Cd' does not speak of.
-/
set_option linter.unusedVariables false
namespace Go.Sx

/-- What is asked of one operation: 'A' is what its value is, 'T' what its value means in the world behind it. -/
structure Kd where
  alone : Bool
  A : Value → Prop
  T : Value → World → Prop
  w0 : Value
  hA : A w0

def Kd.det (v : Value) : Kd := ⟨false, fun u => u = v, fun _ _ => True, v, rfl⟩
def Kd.new (A : Value → Prop) (T : Value → World → Prop) (w0 : Value) (hA : A w0) : Kd := ⟨false, A, T, w0, hA⟩
def Kd.one (A : Value → Prop) (T : Value → World → Prop) (w0 : Value) (hA : A w0) : Kd := ⟨true, A, T, w0, hA⟩

section
variable {P : Program} {ops : Array Oper} {Q : Exit → Act → World → Prop} {md : Region.Mode} {R1 R2 : World → World → Prop} {Cd : World → Prop} {pre : Nat} {kd : Nat → Kd}

def opS (P : Program) (R1 R2 : World → World → Prop) (Cd : World → Prop) (k : Kd) (o : Oper) (a : Act) (C : World → Prop) : Prop :=
  if k.alone then ∀ w, Cd w → C w → opR P o a w (fun v w' => R2 w w' ∧ k.A v ∧ k.T v w') else ∀ w, Cd w → opR P o a w (fun v w' => R1 w w' ∧ k.A v ∧ k.T v w')

def stepK (P : Program) (ops : Array Oper) (R1 R2 : World → World → Prop) (Cd : World → Prop) (k : Kd) (i : Nat) (K : Act → (World → Prop) → (World → Prop) → Prop) (a : Act) (C D : World → Prop) : Prop :=
  match ops[i]? with
  | none => K a C D
  | some o =>
    if Region.wanted o (yielded ops a.tmps) then
      opS P R1 R2 Cd k o a C ∧ ∀ v, k.A v → K (a.put o.dst v) (if k.alone then k.T v else C) (if k.alone then D else fun w => D w ∧ k.T v w)
    else K (a.put o.dst undef) C D

def wpX (P : Program) (md : Region.Mode) (ops : Array Oper) (R1 R2 : World → World → Prop) (Cd : World → Prop) (kd : Nat → Kd) (Q : Exit → Act → World → Prop) (pre : Nat) : Nat → Array Bool → Act → (World → Prop) → (World → Prop) → Prop
  | 0, listed, a, C, D => Region.ready md ops listed = [] ∧ ∀ w, Cd w → C w → D w → wpAny P md ops Q 0 listed a w
  | fuel + 1, listed, a, C, D =>
    if preDone pre listed then ∀ w, Cd w → C w → D w → wpAny P md ops Q (fuel + 1) listed a w
    else Region.ready md ops listed ≠ [] ∧ ∀ i ∈ Region.ready md ops listed, i < pre ∧ stepK P ops R1 R2 Cd (kd i) i (wpX P md ops R1 R2 Cd kd Q pre fuel (listed.setIfInBounds i true)) a C D

theorem stepK_mono {k : Kd} {i : Nat} {K K' : Act → (World → Prop) → (World → Prop) → Prop} {a : Act} {C D D' : World → Prop} (hD : ∀ w, D' w → D w) (hK : ∀ a C D D', (∀ w, D' w → D w) → K a C D → K' a C D') (h : stepK P ops R1 R2 Cd k i K a C D) :
    stepK P ops R1 R2 Cd k i K' a C D' := by
  unfold stepK at *
  split
  · rename_i ho; simp only [ho] at h; exact hK _ _ _ _ hD h
  · rename_i o ho
    simp only [ho] at h
    split
    · rename_i hw
      simp only [hw, if_true] at h
      refine ⟨h.1, fun v hv => hK _ _ _ _ (fun w => ?_) (h.2 v hv)⟩
      cases k.alone
      · exact fun ⟨x, y⟩ => ⟨hD w x, y⟩
      · exact hD w
    · rename_i hw; simp only [hw] at h; exact hK _ _ _ _ hD h

theorem wpX_anti : ∀ (fuel : Nat) (listed : Array Bool) (a : Act) (C D D' : World → Prop), (∀ w, D' w → D w) → wpX P md ops R1 R2 Cd kd Q pre fuel listed a C D → wpX P md ops R1 R2 Cd kd Q pre fuel listed a C D' := by
  intro fuel
  induction fuel with
  | zero => intro listed a C D D' hD h; exact ⟨h.1, fun w h1 h2 h3 => h.2 w h1 h2 (hD w h3)⟩
  | succ fuel ih =>
    intro listed a C D D' hD h
    unfold wpX at h ⊢
    split
    · rename_i hd; simp only [hd, if_true] at h; exact fun w h1 h2 h3 => h w h1 h2 (hD w h3)
    · rename_i hd
      simp only [hd] at h
      exact ⟨h.1, fun i hi => ⟨(h.2 i hi).1, stepK_mono hD (fun a C D D' hD hk => ih _ a C D D' hD hk) (h.2 i hi).2⟩⟩

structure Fits2 (R1 R2 : World → World → Prop) (Cd : World → Prop) (kd : Nat → Kd) : Prop where
  sub : ∀ w w', R1 w w' → R2 w w'
  cd : Stable R2 Cd
  one : ∀ i, (kd i).alone = true → ∀ v, Stable R1 ((kd i).T v)
  new : ∀ i, (kd i).alone = false → ∀ v, Stable R2 ((kd i).T v)

theorem wpAny_of_wpX (F : Fits2 R1 R2 Cd kd) : ∀ (fuel : Nat) (listed : Array Bool) (a : Act) (C D : World → Prop) (w : World), wpX P md ops R1 R2 Cd kd Q pre fuel listed a C D → Stable R1 C → Stable R2 D → Cd w → C w → D w → wpAny P md ops Q fuel listed a w := by
  intro fuel
  induction fuel with
  | zero => intro listed a C D w h _ _ h1 h2 h3; exact h.2 w h1 h2 h3
  | succ fuel ih =>
    intro listed a C D w h hs hd h1 h2 h3
    unfold wpX at h
    split at h
    · exact h w h1 h2 h3
    · refine ⟨fun h0 => absurd h0 h.1, fun i hi => ?_⟩
      have hk := (h.2 i hi).2
      unfold stepK at hk
      unfold wpOp
      split
      · rename_i ho; simp only [ho] at hk; exact ih _ _ _ _ _ hk hs hd h1 h2 h3
      · rename_i o ho
        simp only [ho] at hk
        split
        · rename_i hw
          simp only [hw, if_true] at hk
          obtain ⟨hop, hn⟩ := hk
          unfold opS at hop
          cases hal : (kd i).alone
          · simp only [hal, Bool.false_eq_true, if_false] at hop hn
            refine .inl (opR_wp (hop w h1) fun v w' ⟨k1, k2, k3⟩ => ih _ _ _ _ w' (hn v k2) hs ?_ (F.cd _ _ h1 (F.sub _ _ k1)) (hs _ _ h2 k1) ⟨hd _ _ h3 (F.sub _ _ k1), k3⟩)
            exact fun x y hx hxy => ⟨hd x y hx.1 hxy, F.new i hal v x y hx.2 hxy⟩
          · simp only [hal, if_true] at hop hn
            exact .inl (opR_wp (hop w h1 h2) fun v w' ⟨k1, k2, k3⟩ => ih _ _ _ _ w' (hn v k2) (F.one i hal v) hd (F.cd _ _ h1 k1) k3 (hd _ _ h3 k1))
        · rename_i hw; simp only [hw] at hk; exact ih _ _ _ _ _ hk hs hd h1 h2 h3

theorem opS_put {k : Kd} {oj : Oper} {dst : Option Tmp} {v : Value} (hsj : ∀ cs b, oj.op ≠ .select cs b) {a : Act} {C : World → Prop} (h1 : ∀ d, dst = some d → d ∉ oj.looksAt ops) :
    opS P R1 R2 Cd k oj (a.put dst v) C = opS P R1 R2 Cd k oj a C := by
  unfold opS opR
  rw [execOp_put (ops := ops) oj hsj a dst v h1]

/-- An operation apart from another's: the same steps, the other way round. -/
theorem stepK_put {k : Kd} {j : Nat} {oi oj : Oper} (hj : ops[j]? = some oj) (hap : oi.apart ops oj = true) (hsj : ∀ cs b, oj.op ≠ .select cs b) {v : Value} {K : Act → (World → Prop) → (World → Prop) → Prop} {a : Act} {C D : World → Prop}
    (h : stepK P ops R1 R2 Cd k j K (a.put oi.dst v) C D) :
    (Region.wanted oj (yielded ops a.tmps) = true → opS P R1 R2 Cd k oj a C ∧ ∀ u, k.A u → K ((a.put oj.dst u).put oi.dst v) (if k.alone then k.T u else C) (if k.alone then D else fun w => D w ∧ k.T u w)) ∧
    (Region.wanted oj (yielded ops a.tmps) = false → K ((a.put oj.dst undef).put oi.dst v) C D) := by
  obtain ⟨h1, h2, h3⟩ := Oper.apart_spec hap
  unfold stepK at h
  simp only [hj] at h
  rw [wanted_put oj a oi.dst v h1, opS_put hsj h1] at h
  refine ⟨fun hw => ?_, fun hw => ?_⟩
  · simp only [hw, if_true] at h
    exact ⟨h.1, fun u hu => by rw [← Act.put_comm a v u h2]; exact h.2 u hu⟩
  · simp only [hw, Bool.false_eq_true, if_false] at h
    rw [← Act.put_comm a v undef h2]; exact h

/-- An operation that is not 'alone' may be taken first. -/
theorem wpX_take {B : Nat → Nat → Bool} (hcl : closB md ops B = true) (hbar : barB ops B pre = true) (hpre : pre ≤ ops.size) (hsel : Region.noSelect ops = true) {i : Nat} {oi : Oper} (hi : ops[i]? = some oi) (hip : i < pre) (hal : (kd i).alone = false) :
    ∀ (fuel : Nat) (listed : Array Bool) (a : Act) (C D : World → Prop), listed.size = ops.size → BC ops B listed →
      (∀ j oj, ops[j]? = some oj → j ≠ i → listed.getD j true = false → (∀ e ∈ oj.after, Region.binds md e = true → e.on ≠ i) → oi.apart ops oj = true) →
      i ∈ Region.ready md ops listed →
      stepK P ops R1 R2 Cd (kd i) i (wpX P md ops R1 R2 Cd kd Q pre fuel (listed.setIfInBounds i true)) a C D → wpX P md ops R1 R2 Cd kd Q pre (fuel + 1) listed a C D := by
  intro fuel
  induction fuel with
  | zero =>
    intro listed a C D hsz hbc _ hr H
    unfold wpX
    rw [if_neg (by rw [preDone_of_unlisted hip (mem_ready.1 hr).1]; exact Bool.false_ne_true)]
    refine ⟨fun h => (by rw [h] at hr; cases hr), fun j hj => ⟨bar_lt hcl hbar hpre hsz hbc hj (preDone_of_unlisted hip (mem_ready.1 hr).1), ?_⟩⟩
    by_cases hji : j = i
    · subst hji; exact H
    · exfalso
      have h1 := ready_mono hj hji
      unfold stepK at H
      simp only [hi] at H
      split at H
      · have := (H.2 (kd i).w0 (kd i).hA).1
        rw [this] at h1; cases h1
      · rw [H.1] at h1; cases h1
  | succ fuel ih =>
    intro listed a C D hsz hbc hfree hr H
    have hnd := preDone_of_unlisted hip (mem_ready.1 hr).1
    unfold wpX
    rw [if_neg (by rw [hnd]; exact Bool.false_ne_true)]
    refine ⟨fun h => (by rw [h] at hr; cases hr), fun j hj => ⟨bar_lt hcl hbar hpre hsz hbc hj hnd, ?_⟩⟩
    by_cases hji : j = i
    · subst hji; exact H
    · have hjp := bar_lt hcl hbar hpre hsz hbc hj hnd
      have hj' := ready_mono hj hji
      obtain ⟨hjun, oj, hoj, hall⟩ := mem_ready.1 hj
      have hnot : ∀ e ∈ oj.after, Region.binds md e = true → e.on ≠ i := fun e he hb heq => by
        have h1 := hall e he hb
        have h0 := (mem_ready.1 hr).1
        rw [heq] at h1
        rcases Nat.lt_or_ge i listed.size with h' | h'
        · simp [h'] at h0 h1; rw [h0] at h1; cases h1
        · simp [Array.getElem?_eq_none h'] at h1
      have hfree' : ∀ k ok, ops[k]? = some ok → k ≠ i → (listed.setIfInBounds j true).getD k true = false →
          (∀ e ∈ ok.after, Region.binds md e = true → e.on ≠ i) → oi.apart ops ok = true := fun k ok hk hki hun hno => by
        refine hfree k ok hk hki ?_ hno
        by_cases hjk : j = k
        · subst hjk; exact hjun
        · rw [getD_set_ne true hjk] at hun; exact hun
      have hap := hfree j oj hoj hji hjun hnot
      obtain ⟨a1, a2, a3⟩ := Oper.apart_spec hap
      have hsi := fun cs b => Region.noSelect_spec hsel i oi cs b hi
      have hsj := fun cs b => Region.noSelect_spec hsel j oj cs b hoj
      have go : ∀ v D', wpX P md ops R1 R2 Cd kd Q pre (fuel + 1) (listed.setIfInBounds i true) (a.put oi.dst v) C D' → _ := fun v D' hx => by
        unfold wpX at hx
        rw [if_neg (by rw [preDone_of_unlisted hjp (mem_ready.1 hj').1]; exact Bool.false_ne_true)] at hx
        exact stepK_put hoj hap hsj (hx.2 j hj').2
      unfold stepK at H
      simp only [hi] at H
      have hwi : ∀ u, Region.wanted oi (yielded ops (a.put oj.dst u).tmps) = Region.wanted oi (yielded ops a.tmps) := fun u => wanted_put oi a oj.dst u a3
      have hcomm : (listed.setIfInBounds i true).setIfInBounds j true = (listed.setIfInBounds j true).setIfInBounds i true := Array.setIfInBounds_comm _ _ (Ne.symm hji)
      have fin : ∀ u C' D', stepK P ops R1 R2 Cd (kd i) i (wpX P md ops R1 R2 Cd kd Q pre fuel ((listed.setIfInBounds j true).setIfInBounds i true)) (a.put oj.dst u) C' D' →
          wpX P md ops R1 R2 Cd kd Q pre (fuel + 1) (listed.setIfInBounds j true) (a.put oj.dst u) C' D' := fun u C' D' hs =>
        ih (listed.setIfInBounds j true) _ C' D' (by simpa using hsz) (hbc.set hcl hsz hj) hfree' (ready_mono hr (Ne.symm hji)) hs
      unfold stepK
      simp only [hoj]
      by_cases hw : Region.wanted oi (yielded ops a.tmps) = true
      · simp only [hw, if_true, hal, Bool.false_eq_true, if_false] at H
        have hop : ∀ C' u, opS P R1 R2 Cd (kd i) oi (a.put oj.dst u) C' := fun C' u => by
          rw [opS_put hsi a3]
          have := H.1
          unfold opS at this ⊢
          simpa only [hal, Bool.false_eq_true, if_false] using this
        split
        · rename_i hwj
          refine ⟨((go _ _ (H.2 (kd i).w0 (kd i).hA)).1 hwj).1, fun u hu => fin u _ _ ?_⟩
          unfold stepK
          simp only [hi, hwi, hw, if_true]
          refine ⟨hop _ u, fun v hv => ?_⟩
          have h2 := ((go _ _ (H.2 v hv)).1 hwj).2 u hu
          rw [hcomm] at h2
          simp only [hal, Bool.false_eq_true, if_false]
          refine wpX_anti _ _ _ _ _ _ (fun w => ?_) h2
          cases (kd j).alone
          · exact fun ⟨⟨x, y⟩, z⟩ => ⟨⟨x, z⟩, y⟩
          · exact id
        · rename_i hwj
          refine fin undef _ _ ?_
          unfold stepK
          simp only [hi, hwi, hw, if_true]
          refine ⟨hop _ _, fun v hv => ?_⟩
          have h2 := (go _ _ (H.2 v hv)).2 (by simpa using hwj)
          rw [hcomm] at h2
          simp only [hal, Bool.false_eq_true, if_false]
          exact h2
      · simp only [hw] at H
        split
        · rename_i hwj
          refine ⟨((go _ _ H).1 hwj).1, fun u hu => fin u _ _ ?_⟩
          unfold stepK
          simp only [hi, hwi, hw]
          have h2 := ((go _ _ H).1 hwj).2 u hu
          rw [hcomm] at h2
          exact h2
        · rename_i hwj
          refine fin undef _ _ ?_
          unfold stepK
          simp only [hi, hwi, hw]
          have h2 := (go _ _ H).2 (by simpa using hwj)
          rw [hcomm] at h2
          exact h2

/-! ### The user's own order -/
def Stab (R1 R2 : World → World → Prop) (k : Kd) : Prop := (k.alone = true → ∀ v, Stable R1 (k.T v)) ∧ (k.alone = false → ∀ v, Stable R2 (k.T v))
theorem stab_det (v : Value) : Stab R1 R2 (Kd.det v) := ⟨(fun h => by cases h), fun _ _ _ _ _ _ => trivial⟩
def ordX (P : Program) (ops : Array Oper) (R1 R2 : World → World → Prop) (Cd : World → Prop) (Q : Exit → Act → World → Prop) (pre : Nat) : List (Nat × Kd) → Act → (World → Prop) → (World → Prop) → Prop
  | [], a, C, D => ∀ w, Cd w → C w → D w → wpList P ops Q (ops.toList.drop pre) a w
  | (i, k) :: rest, a, C, D => Stab R1 R2 k ∧ stepK P ops R1 R2 Cd k i (ordX P ops R1 R2 Cd Q pre rest) a C D

theorem ordX_anti : ∀ (l : List (Nat × Kd)) (a : Act) (C D D' : World → Prop), (∀ w, D' w → D w) → ordX P ops R1 R2 Cd Q pre l a C D → ordX P ops R1 R2 Cd Q pre l a C D'
  | [], a, C, D, D', hD, h => fun w h1 h2 h3 => h w h1 h2 (hD w h3)
  | (i, k) :: rest, a, C, D, D', hD, h => ⟨h.1, stepK_mono hD (fun a C D D' hD hk => ordX_anti rest a C D D' hD hk) h.2⟩
theorem ordX_stab : ∀ (l : List (Nat × Kd)) (a : Act) (C D : World → Prop), ordX P ops R1 R2 Cd Q pre l a C D → ∀ x ∈ l, Stab R1 R2 x.2
  | (i, k) :: rest, a, C, D, h, x, hx => by
    rcases List.mem_cons.1 hx with rfl | hx
    · exact h.1
    · have h2 := h.2
      unfold stepK at h2
      split at h2
      · exact ordX_stab rest _ _ _ h2 x hx
      · split at h2
        · exact ordX_stab rest _ _ _ (h2.2 k.w0 k.hA) x hx
        · exact ordX_stab rest _ _ _ h2 x hx

theorem wpX_of_ord {B : Nat → Nat → Bool} (hcl : closB md ops B = true) (hbar : barB ops B pre = true) (hpre : pre ≤ ops.size) (hsel : Region.noSelect ops = true) :
    ∀ (l : List (Nat × Kd)) (fuel : Nat) (listed : Array Bool) (a : Act) (C D : World → Prop), (∀ x ∈ l, kd x.1 = x.2) → listed.size = ops.size → BC ops B listed → l.length + (ops.size - pre) ≤ fuel →
      ordOk md ops pre (l.map fun x => (x.1, !x.2.alone)) listed = true → ordX P ops R1 R2 Cd Q pre l a C D → wpX P md ops R1 R2 Cd kd Q pre fuel listed a C D := by
  intro l
  induction l with
  | nil =>
    intro fuel listed a C D _ hsz hbc hf hB h
    simp only [List.map_nil, ordOk, Bool.and_eq_true, List.all_eq_true, List.mem_range, Bool.or_eq_true, decide_eq_true_eq, Bool.not_eq_true'] at hB
    obtain ⟨⟨hd, hu⟩, hc⟩ := hB
    have hdl : ∀ i, i < pre → listed.getD i true = true := fun i hi => List.all_eq_true.1 hd i (List.mem_range.2 hi)
    have hord : ∀ j, pre ≤ j → j < ops.size → ∃ o, ops[j]? = some o ∧ (∀ e ∈ o.after, Region.binds md e = true → e.on < j) ∧ (j = pre ∨ ∃ e ∈ o.after, Region.binds md e = true ∧ e.on = j - 1) := fun j hj hlt => by
      have := (hc j hlt).resolve_left (by omega)
      rw [Array.getElem?_eq_getElem hlt] at this
      simp only [Bool.and_eq_true, Bool.or_eq_true, decide_eq_true_eq, Array.all_eq_true_iff_forall_mem, Array.any_eq_true', Bool.not_eq_true', beq_iff_eq] at this
      refine ⟨ops[j], Array.getElem?_eq_getElem hlt, fun e he hb => ?_, ?_⟩
      · rcases this.1 e he with h1 | h1
        · rw [hb] at h1; cases h1
        · exact h1
      · rcases this.2 with h1 | ⟨e, he, h1, h2⟩
        · exact .inl h1
        · exact .inr ⟨e, he, h1, h2⟩
    have key : ∀ w, Cd w → C w → D w → wpAny P md ops Q fuel listed a w := fun w h1 h2 h3 =>
      wpAny_tail hord (ops.size - pre) pre fuel listed a w (by omega) (Nat.le_refl _) (by simpa using hf) hsz hdl (fun i h1 h2 => (hu i h2).resolve_left (by omega)) (h w h1 h2 h3)
    cases fuel with
    | zero =>
      refine ⟨?_, key⟩
      rw [List.eq_nil_iff_forall_not_mem]
      intro j hj
      obtain ⟨h0, o, ho, _⟩ := mem_ready.1 hj
      have hlt : j < ops.size := (Array.getElem?_eq_some_iff.1 ho).1
      rw [hdl j (by simp at hf; omega)] at h0
      cases h0
    | succ fuel => unfold wpX; rw [if_pos hd]; exact key
  | cons x rest ih =>
    obtain ⟨i, k⟩ := x
    intro fuel listed a C D hkd hsz hbc hf hB h
    obtain ⟨fuel, rfl⟩ : ∃ f, fuel = f + 1 := ⟨fuel - 1, by simp at hf; omega⟩
    have hki : kd i = k := hkd (i, k) (by simp)
    have hrest : ∀ x ∈ rest, kd x.1 = x.2 := fun x hx => hkd x (by simp [hx])
    have h' : stepK P ops R1 R2 Cd (kd i) i (ordX P ops R1 R2 Cd Q pre rest) a C D := by rw [hki]; exact h.2
    cases hal : k.alone with
    | false =>
      simp only [List.map_cons, hal, Bool.not_false, ordOk, Bool.and_eq_true, decide_eq_true_eq] at hB
      obtain ⟨⟨⟨hip, hr⟩, hfr⟩, hB'⟩ := hB
      have hr' : i ∈ Region.ready md ops listed := by simpa using hr
      obtain ⟨_, o, ho, _⟩ := mem_ready.1 hr'
      exact wpX_take hcl hbar hpre hsel ho hip (by rw [hki]; exact hal) fuel listed a C D hsz hbc (Region.free_spec ho hfr) hr'
        (stepK_mono (fun _ h => h) (fun a C D D' hD hk => wpX_anti _ _ _ _ _ _ hD (ih fuel _ a C D hrest (by simpa using hsz) (hbc.set hcl hsz hr') (by simp at hf; omega) hB' hk)) h')
    | true =>
      simp only [List.map_cons, hal, Bool.not_true, ordOk, Bool.and_eq_true, decide_eq_true_eq, beq_iff_eq] at hB
      obtain ⟨⟨hip, hr⟩, hB'⟩ := hB
      have hr' : i ∈ Region.ready md ops listed := by rw [hr]; simp
      unfold wpX
      rw [if_neg (by rw [preDone_of_unlisted hip (mem_ready.1 hr').1]; exact Bool.false_ne_true)]
      refine ⟨by rw [hr]; simp, fun j hj => ?_⟩
      rw [hr] at hj
      obtain rfl : j = i := by simpa using hj
      exact ⟨hip, stepK_mono (fun _ h => h) (fun a C D D' hD hk => wpX_anti _ _ _ _ _ _ hD (ih fuel _ a C D hrest (by simpa using hsz) (hbc.set hcl hsz hr') (by simp at hf; omega) hB' hk)) h'⟩

def kdOf (l : List (Nat × Kd)) (i : Nat) : Kd := ((l.find? fun x => x.1 == i).map (·.2)).getD (Kd.det undef)
theorem kdOf_mem : ∀ {l : List (Nat × Kd)}, (l.map (·.1)).Nodup → ∀ x ∈ l, kdOf l x.1 = x.2
  | y :: l, h, x, hx => by
    rw [List.map_cons, List.nodup_cons] at h
    unfold kdOf
    rcases List.mem_cons.1 hx with rfl | hx
    · simp
    · have hne : (y.1 == x.1) = false := beq_eq_false_iff_ne.2 fun e => h.1 (by rw [e]; exact List.mem_map.2 ⟨x, hx, rfl⟩)
      rw [List.find?_cons, hne]
      exact kdOf_mem h.2 x hx
theorem kdOf_all {p : Kd → Prop} {l : List (Nat × Kd)} (h0 : p (Kd.det undef)) (h : ∀ x ∈ l, p x.2) (i : Nat) : p (kdOf l i) := by
  unfold kdOf
  cases hf : l.find? fun x => x.1 == i with
  | none => exact h0
  | some x => exact h x (List.mem_of_find?_eq_some hf)

/-- A region that draws its order, walked in one chosen order. 'R1': what most operations keep; 'R2': what each one keeps; 'Cd': what 'R2' keeps; 'C': what is known besides, kept by 'R1'. -/
theorem wp_region_ordX {id : Nat} {a : Act} {w : World} (l : List (Nat × Kd)) (pre : Nat) (R1 R2 : World → World → Prop) (Cd C : World → Prop) (hm : P.follows .mixedOrders = true) (ix : List (Nat × Bool)) (hB : okB .any ops pre ix (befB ops) = true)
    (hix : l.map (fun x => (x.1, !x.2.alone)) = ix) (hnd : (ix.map (·.1)).Nodup) (sub : ∀ w w', R1 w w' → R2 w w') (hcd : Stable R2 Cd) (hs : Stable R1 C)
    (h1 : Cd { w with drawn := w.drawn + 1 }) (h2 : C { w with drawn := w.drawn + 1 }) (h : ordX P ops R1 R2 Cd Q pre l a C (fun _ => True)) : (Code.region id ops true).wp P Q a w := by
  subst hix
  simp only [okB, Bool.and_eq_true, decide_eq_true_eq] at hB
  obtain ⟨⟨⟨⟨⟨b1, b2⟩, b3⟩, b4⟩, b5⟩, b6⟩ := hB
  have hkd := ordX_stab _ _ _ _ h
  refine wp_region_any hm (wpAny_of_wpX (R1 := R1) (R2 := R2) (Cd := Cd) (kd := kdOf l) (pre := pre) ⟨sub, hcd, fun i => (kdOf_all (p := fun k => (k.alone = true → ∀ v, Stable R1 (k.T v)) ∧ (k.alone = false → ∀ v, Stable R2 (k.T v))) ⟨(fun h => by cases h), fun _ _ _ _ _ _ => trivial⟩ hkd i).1,
    fun i => (kdOf_all (p := fun k => (k.alone = true → ∀ v, Stable R1 (k.T v)) ∧ (k.alone = false → ∀ v, Stable R2 (k.T v))) ⟨(fun h => by cases h), fun _ _ _ _ _ _ => trivial⟩ hkd i).2⟩ _ _ _ C (fun _ => True) _ ?_ hs (fun _ _ _ _ => trivial) h1 h2 trivial)
  refine wpX_of_ord b1 b2 b3 b4 l _ _ a C _ (kdOf_mem (by rw [List.map_map] at hnd; exact hnd)) (by simp) (fun j i hj hi hl _ => ?_) (by rw [List.length_map] at b5; exact b5) b6 h
  simp [hj] at hl

/-! ### One step each -/
variable {C D : World → Prop} {rest : List (Nat × Kd)} {i : Nat} {a : Act} {o : Oper}
theorem ordX_det {a' : Act} {v : Value} (ho : ops[i]? = some o) (hg : o.guard = none) (h : ∀ w, Cd w → opR P o a w (fun u w' => R1 w w' ∧ u = v)) (ha : a.put o.dst v = a') (hn : ordX P ops R1 R2 Cd Q pre rest a' C D) :
    ordX P ops R1 R2 Cd Q pre ((i, Kd.det v) :: rest) a C D := by
  subst ha
  refine ⟨stab_det _, ?_⟩
  unfold stepK
  simp only [ho]
  rw [if_pos (by simp [Region.wanted, hg])]
  refine ⟨?_, fun u hu => ?_⟩
  · show ∀ w, Cd w → _
    exact fun w hw => opR_mono (fun u w' h => ⟨h.1, h.2, trivial⟩) (h w hw)
  · cases hu
    exact ordX_anti rest _ _ _ _ (fun w h => h.1) hn
theorem ordX_yes {a' : Act} {v : Value} (ho : ops[i]? = some o) (hg : Region.wanted o (yielded ops a.tmps) = true) (h : ∀ w, Cd w → opR P o a w (fun u w' => R1 w w' ∧ u = v)) (ha : a.put o.dst v = a') (hn : ordX P ops R1 R2 Cd Q pre rest a' C D) :
    ordX P ops R1 R2 Cd Q pre ((i, Kd.det v) :: rest) a C D := by
  subst ha
  refine ⟨stab_det _, ?_⟩
  unfold stepK
  simp only [ho]
  rw [if_pos hg]
  refine ⟨?_, fun u hu => ?_⟩
  · show ∀ w, Cd w → _
    exact fun w hw => opR_mono (fun u w' h => ⟨h.1, h.2, trivial⟩) (h w hw)
  · cases hu
    exact ordX_anti rest _ _ _ _ (fun w h => h.1) hn
theorem ordX_no {a' : Act} {v : Value} (ho : ops[i]? = some o) (hg : Region.wanted o (yielded ops a.tmps) = false) (ha : a.put o.dst undef = a') (hn : ordX P ops R1 R2 Cd Q pre rest a' C D) :
    ordX P ops R1 R2 Cd Q pre ((i, Kd.det v) :: rest) a C D := by
  subst ha
  refine ⟨stab_det _, ?_⟩
  unfold stepK
  simp only [ho]
  rw [if_neg (by simp [hg])]
  exact hn
theorem ordX_new {A : Value → Prop} {T : Value → World → Prop} {w0 : Value} {hA : A w0} {a' : Value → Act} (hst : ∀ v, Stable R2 (T v)) (ho : ops[i]? = some o) (hg : o.guard = none) (h : ∀ w, Cd w → opR P o a w (fun u w' => R1 w w' ∧ A u ∧ T u w')) (ha : ∀ v, a.put o.dst v = a' v)
    (hn : ∀ v, A v → ordX P ops R1 R2 Cd Q pre rest (a' v) C (fun w => D w ∧ T v w)) : ordX P ops R1 R2 Cd Q pre ((i, Kd.new A T w0 hA) :: rest) a C D := by
  refine ⟨⟨(fun h => by cases h), fun _ => hst⟩, ?_⟩
  unfold stepK
  simp only [ho]
  rw [if_pos (by simp [Region.wanted, hg])]
  exact ⟨h, fun v hv => by rw [ha]; exact hn v hv⟩
theorem ordX_one {A : Value → Prop} {T : Value → World → Prop} {w0 : Value} {hA : A w0} {a' : Value → Act} (hst : ∀ v, Stable R1 (T v)) (ho : ops[i]? = some o) (hg : o.guard = none) (h : ∀ w, Cd w → C w → opR P o a w (fun u w' => R2 w w' ∧ A u ∧ T u w')) (ha : ∀ v, a.put o.dst v = a' v)
    (hn : ∀ v, A v → ordX P ops R1 R2 Cd Q pre rest (a' v) (T v) D) : ordX P ops R1 R2 Cd Q pre ((i, Kd.one A T w0 hA) :: rest) a C D := by
  refine ⟨⟨fun _ => hst, (fun h => by cases h)⟩, ?_⟩
  unfold stepK
  simp only [ho]
  rw [if_pos (by simp [Region.wanted, hg])]
  exact ⟨h, fun v hv => by rw [ha]; exact hn v hv⟩
theorem ordX_nil {l : List Oper} (hl : ops.toList.drop pre = l) (h : ∀ w, Cd w → C w → D w → wpList P ops Q l a w) : ordX P ops R1 R2 Cd Q pre [] a C D := by
  show ∀ w, Cd w → C w → D w → wpList P ops Q (ops.toList.drop pre) a w
  rw [hl]; exact h
end
end Go.Sx

/-
  A third law on regions that draw their order (as Dx, but an operation may lean on what another one, that it waits for by an edge, has made): besides operations with one value, such as yield a new thing in any world of a class (a call that makes a row, a literal), and such as are alone ready and may write into what the class 'Cd' does not speak of.
-/
set_option linter.unusedVariables false
namespace Go.Sx.Y
open Go.Sx

/-- What is asked of one operation: 'A' is what its value is, 'T' what its value means in the world behind it. -/
structure Kd where
  alone : Bool
  A : Value → Prop
  T : Value → World → Prop
  w0 : Value
  hA : A w0
  need : List Nat

def Kd.det (v : Value) : Kd := ⟨false, fun u => u = v, fun _ _ => True, v, rfl, []⟩
def Kd.new (A : Value → Prop) (T : Value → World → Prop) (w0 : Value) (hA : A w0) (need : List Nat := []) : Kd := ⟨false, A, T, w0, hA, need⟩
def Kd.one (A : Value → Prop) (T : Value → World → Prop) (w0 : Value) (hA : A w0) (need : List Nat := []) : Kd := ⟨true, A, T, w0, hA, need⟩

section
variable {P : Program} {ops : Array Oper} {Q : Exit → Act → World → Prop} {md : Region.Mode} {R1 R2 : World → World → Prop} {Cd : World → Prop} {pre : Nat} {kd : Nat → Kd}

def upd (σ : Nat → Value) (i : Nat) (v : Value) : Nat → Value := fun k => if k = i then v else σ k
theorem upd_same (σ : Nat → Value) (i : Nat) (v : Value) : upd σ i v i = v := if_pos rfl
theorem upd_ne (σ : Nat → Value) {i k : Nat} (v : Value) (h : k ≠ i) : upd σ i v k = σ k := if_neg h
theorem upd_comm (σ : Nat → Value) {i j : Nat} (h : i ≠ j) (v u : Value) : upd (upd σ i v) j u = upd (upd σ j u) i v := by
  funext k
  unfold upd
  by_cases h1 : k = j
  · rw [if_pos h1, if_neg (fun e => h (e.symm.trans h1)), if_pos h1]
  · rw [if_neg h1, if_neg h1]
/-- What operations have made, as far as it is asked for. -/
def Nd (kd : Nat → Kd) (σ : Nat → Value) (ks : List Nat) (w : World) : Prop := ∀ k ∈ ks, (kd k).T (σ k) w
theorem Nd_upd {σ : Nat → Value} {i : Nat} {v : Value} {ks : List Nat} (h : i ∉ ks) : Nd kd (upd σ i v) ks = Nd kd σ ks := by
  funext w
  apply propext
  unfold Nd
  constructor <;> intro hk k hm
  · have := hk k hm
    rwa [upd_ne _ _ (fun (e : _ = i) => h (by rw [← e]; exact hm))] at this
  · rw [upd_ne _ _ (fun (e : _ = i) => h (by rw [← e]; exact hm))]; exact hk k hm

def opS (P : Program) (R1 R2 : World → World → Prop) (Cd : World → Prop) (kd : Nat → Kd) (σ : Nat → Value) (k : Kd) (o : Oper) (a : Act) (C : World → Prop) : Prop :=
  if k.alone then ∀ w, Cd w → C w → Nd kd σ k.need w → opR P o a w (fun v w' => R2 w w' ∧ k.A v ∧ k.T v w') else ∀ w, Cd w → Nd kd σ k.need w → opR P o a w (fun v w' => R1 w w' ∧ k.A v ∧ k.T v w')

def stepK (P : Program) (ops : Array Oper) (R1 R2 : World → World → Prop) (Cd : World → Prop) (kd : Nat → Kd) (k : Kd) (i : Nat) (K : (Nat → Value) → Act → (World → Prop) → (World → Prop) → Prop) (σ : Nat → Value) (a : Act) (C D : World → Prop) : Prop :=
  match ops[i]? with
  | none => K σ a C D
  | some o =>
    if Region.wanted o (yielded ops a.tmps) then
      opS P R1 R2 Cd kd σ k o a C ∧ ∀ v, k.A v → K (upd σ i v) (a.put o.dst v) (if k.alone then k.T v else C) (if k.alone then D else fun w => D w ∧ k.T v w)
    else K σ (a.put o.dst undef) C D

def wpX (P : Program) (md : Region.Mode) (ops : Array Oper) (R1 R2 : World → World → Prop) (Cd : World → Prop) (kd : Nat → Kd) (Q : Exit → Act → World → Prop) (pre : Nat) : Nat → Array Bool → (Nat → Value) → Act → (World → Prop) → (World → Prop) → Prop
  | 0, listed, _, a, C, D => Region.ready md ops listed = [] ∧ ∀ w, Cd w → C w → D w → wpAny P md ops Q 0 listed a w
  | fuel + 1, listed, σ, a, C, D =>
    if preDone pre listed then ∀ w, Cd w → C w → D w → wpAny P md ops Q (fuel + 1) listed a w
    else Region.ready md ops listed ≠ [] ∧ ∀ i ∈ Region.ready md ops listed, i < pre ∧ stepK P ops R1 R2 Cd kd (kd i) i (wpX P md ops R1 R2 Cd kd Q pre fuel (listed.setIfInBounds i true)) σ a C D

theorem stepK_mono {k : Kd} {i : Nat} {K K' : (Nat → Value) → Act → (World → Prop) → (World → Prop) → Prop} {σ : Nat → Value} {a : Act} {C D D' : World → Prop} (hD : ∀ w, D' w → D w) (hK : ∀ σ a C D D', (∀ w, D' w → D w) → K σ a C D → K' σ a C D') (h : stepK P ops R1 R2 Cd kd k i K σ a C D) :
    stepK P ops R1 R2 Cd kd k i K' σ a C D' := by
  unfold stepK at *
  split
  · rename_i ho; simp only [ho] at h; exact hK _ _ _ _ _ hD h
  · rename_i o ho
    simp only [ho] at h
    split
    · rename_i hw
      simp only [hw, if_true] at h
      refine ⟨h.1, fun v hv => hK _ _ _ _ _ (fun w => ?_) (h.2 v hv)⟩
      cases k.alone
      · exact fun ⟨x, y⟩ => ⟨hD w x, y⟩
      · exact hD w
    · rename_i hw; simp only [hw] at h; exact hK _ _ _ _ _ hD h

theorem wpX_anti : ∀ (fuel : Nat) (listed : Array Bool) (σ : Nat → Value) (a : Act) (C D D' : World → Prop), (∀ w, D' w → D w) → wpX P md ops R1 R2 Cd kd Q pre fuel listed σ a C D → wpX P md ops R1 R2 Cd kd Q pre fuel listed σ a C D' := by
  intro fuel
  induction fuel with
  | zero => intro listed σ a C D D' hD h; exact ⟨h.1, fun w h1 h2 h3 => h.2 w h1 h2 (hD w h3)⟩
  | succ fuel ih =>
    intro listed σ a C D D' hD h
    unfold wpX at h ⊢
    split
    · rename_i hd; simp only [hd, if_true] at h; exact fun w h1 h2 h3 => h w h1 h2 (hD w h3)
    · rename_i hd
      simp only [hd] at h
      exact ⟨h.1, fun i hi => ⟨(h.2 i hi).1, stepK_mono hD (fun σ a C D D' hD hk => ih _ σ a C D D' hD hk) (h.2 i hi).2⟩⟩

structure Fits2 (R1 R2 : World → World → Prop) (Cd : World → Prop) (kd : Nat → Kd) : Prop where
  sub : ∀ w w', R1 w w' → R2 w w'
  cd : Stable R2 Cd
  one : ∀ i, (kd i).alone = true → ∀ v, Stable R1 ((kd i).T v)
  new : ∀ i, (kd i).alone = false → ∀ v, Stable R2 ((kd i).T v)

/-- What is leant on: each operation that is leant on is waited for, is not alone, and has no guard. -/
structure Leans (md : Region.Mode) (ops : Array Oper) (kd : Nat → Kd) : Prop where
  edge : ∀ i oi, ops[i]? = some oi → ∀ k ∈ (kd i).need, ∃ e ∈ oi.after, Region.binds md e = true ∧ e.on = k
  plain : ∀ i, ∀ k ∈ (kd i).need, (kd k).alone = false ∧ ∃ ok, ops[k]? = some ok ∧ ok.guard = none

theorem wpAny_of_wpX (F : Fits2 R1 R2 Cd kd) (N : Leans md ops kd) : ∀ (fuel : Nat) (listed : Array Bool) (σ : Nat → Value) (a : Act) (C D : World → Prop) (w : World), wpX P md ops R1 R2 Cd kd Q pre fuel listed σ a C D → Stable R1 C → Stable R2 D → Cd w → C w → D w →
    (∀ i, ∀ k ∈ (kd i).need, listed.getD k true = true → (kd k).T (σ k) w) → listed.size = ops.size → wpAny P md ops Q fuel listed a w := by
  intro fuel
  induction fuel with
  | zero => intro listed σ a C D w h _ _ h1 h2 h3 _ _; exact h.2 w h1 h2 h3
  | succ fuel ih =>
    intro listed σ a C D w h hs hd h1 h2 h3 hI hsz
    unfold wpX at h
    split at h
    · exact h w h1 h2 h3
    · refine ⟨fun h0 => absurd h0 h.1, fun i hi => ?_⟩
      have hk := (h.2 i hi).2
      obtain ⟨hun, oi0, hoi0, hall⟩ := mem_ready.1 hi
      have hsz' : (listed.setIfInBounds i true).size = ops.size := by simpa using hsz
      unfold stepK at hk
      unfold wpOp
      split
      · rename_i ho; rw [ho] at hoi0; cases hoi0
      · rename_i o ho
        simp only [ho] at hk
        have hND : Nd kd σ (kd i).need w := fun k hkn => by
          obtain ⟨e, he, hb, hon⟩ := N.edge i o ho k hkn
          have h4 := hall e (by rw [ho] at hoi0; cases hoi0; exact he) hb
          rw [hon] at h4
          exact hI i k hkn (by
            rcases Nat.lt_or_ge k listed.size with h' | h'
            · simp [h'] at h4 ⊢; exact h4
            · simp [Array.getElem?_eq_none h'] at h4)
        have later : ∀ (v : Value) (w' : World), R2 w w' → ((kd i).alone = false → (kd i).T v w') → ∀ i', ∀ k ∈ (kd i').need, (listed.setIfInBounds i true).getD k true = true → (kd k).T (upd σ i v k) w' := fun v w' hr hT i' k hkn hl => by
          by_cases hki : k = i
          · subst hki
            rw [upd_same]
            exact hT (N.plain i' k hkn).1
          · rw [upd_ne _ _ hki]
            rw [getD_set_ne true (Ne.symm hki)] at hl
            exact F.new k (N.plain i' k hkn).1 (σ k) w w' (hI i' k hkn hl) hr
        split
        · rename_i hw
          simp only [hw, if_true] at hk
          obtain ⟨hop, hn⟩ := hk
          unfold opS at hop
          cases hal : (kd i).alone
          · simp only [hal, Bool.false_eq_true, if_false] at hop hn
            refine .inl (opR_wp (hop w h1 hND) fun v w' ⟨k1, k2, k3⟩ => ih _ _ _ _ _ w' (hn v k2) hs ?_ (F.cd _ _ h1 (F.sub _ _ k1)) (hs _ _ h2 k1) ⟨hd _ _ h3 (F.sub _ _ k1), k3⟩ (later v w' (F.sub _ _ k1) (fun _ => k3)) hsz')
            exact fun x y hx hxy => ⟨hd x y hx.1 hxy, F.new i hal v x y hx.2 hxy⟩
          · simp only [hal, if_true] at hop hn
            exact .inl (opR_wp (hop w h1 h2 hND) fun v w' ⟨k1, k2, k3⟩ => ih _ _ _ _ _ w' (hn v k2) (F.one i hal v) hd (F.cd _ _ h1 k1) k3 (hd _ _ h3 k1) (later v w' k1 (fun h => by rw [hal] at h; cases h)) hsz')
        · rename_i hw
          simp only [hw] at hk
          refine ih _ _ _ _ _ _ hk hs hd h1 h2 h3 (fun i' k hkn hl => ?_) hsz'
          by_cases hki : k = i
          · subst hki
            obtain ⟨_, ok, hok, hg⟩ := N.plain i' k hkn
            rw [ho] at hok; cases hok
            exact absurd (by simp [Region.wanted, hg]) hw
          · rw [getD_set_ne true (Ne.symm hki)] at hl
            exact hI i' k hkn hl

theorem opS_put {k : Kd} {σ : Nat → Value} {oj : Oper} {dst : Option Tmp} {v u : Value} {i : Nat} (hsj : ∀ cs b, oj.op ≠ .select cs b) {a : Act} {C : World → Prop} (h1 : ∀ d, dst = some d → d ∉ oj.looksAt ops) (hn : i ∉ k.need) :
    opS P R1 R2 Cd kd (upd σ i u) k oj (a.put dst v) C = opS P R1 R2 Cd kd σ k oj a C := by
  unfold opS opR
  rw [execOp_put (ops := ops) oj hsj a dst v h1, Nd_upd hn]

/-- An operation apart from another's: the same steps, the other way round. -/
theorem stepK_put {k : Kd} {σ : Nat → Value} {i j : Nat} {oi oj : Oper} (hj : ops[j]? = some oj) (hap : oi.apart ops oj = true) (hsj : ∀ cs b, oj.op ≠ .select cs b) (hn : i ∉ k.need) (hij : i ≠ j) {v u0 : Value} {K : (Nat → Value) → Act → (World → Prop) → (World → Prop) → Prop} {a : Act} {C D : World → Prop}
    (h : stepK P ops R1 R2 Cd kd k j K (upd σ i u0) (a.put oi.dst v) C D) :
    (Region.wanted oj (yielded ops a.tmps) = true → opS P R1 R2 Cd kd σ k oj a C ∧ ∀ u, k.A u → K (upd (upd σ j u) i u0) ((a.put oj.dst u).put oi.dst v) (if k.alone then k.T u else C) (if k.alone then D else fun w => D w ∧ k.T u w)) ∧
    (Region.wanted oj (yielded ops a.tmps) = false → K (upd σ i u0) ((a.put oj.dst undef).put oi.dst v) C D) := by
  obtain ⟨h1, h2, h3⟩ := Oper.apart_spec hap
  unfold stepK at h
  simp only [hj] at h
  rw [wanted_put oj a oi.dst v h1, opS_put hsj h1 hn] at h
  refine ⟨fun hw => ?_, fun hw => ?_⟩
  · simp only [hw, if_true] at h
    exact ⟨h.1, fun u hu => by rw [← Act.put_comm a v u h2, ← upd_comm σ hij u0 u]; exact h.2 u hu⟩
  · simp only [hw, Bool.false_eq_true, if_false] at h
    rw [← Act.put_comm a v undef h2]; exact h
/-- .. where the first one was not wanted. -/
theorem stepK_put' {k : Kd} {σ : Nat → Value} {j : Nat} {oi oj : Oper} (hj : ops[j]? = some oj) (hap : oi.apart ops oj = true) (hsj : ∀ cs b, oj.op ≠ .select cs b) {v : Value} {K : (Nat → Value) → Act → (World → Prop) → (World → Prop) → Prop} {a : Act} {C D : World → Prop}
    (h : stepK P ops R1 R2 Cd kd k j K σ (a.put oi.dst v) C D) :
    (Region.wanted oj (yielded ops a.tmps) = true → opS P R1 R2 Cd kd σ k oj a C ∧ ∀ u, k.A u → K (upd σ j u) ((a.put oj.dst u).put oi.dst v) (if k.alone then k.T u else C) (if k.alone then D else fun w => D w ∧ k.T u w)) ∧
    (Region.wanted oj (yielded ops a.tmps) = false → K σ ((a.put oj.dst undef).put oi.dst v) C D) := by
  obtain ⟨h1, h2, h3⟩ := Oper.apart_spec hap
  unfold stepK at h
  simp only [hj] at h
  have he : opS P R1 R2 Cd kd σ k oj (a.put oi.dst v) C = opS P R1 R2 Cd kd σ k oj a C := by
    unfold opS opR
    rw [execOp_put (ops := ops) oj hsj a oi.dst v h1]
  rw [wanted_put oj a oi.dst v h1, he] at h
  refine ⟨fun hw => ?_, fun hw => ?_⟩
  · simp only [hw, if_true] at h
    exact ⟨h.1, fun u hu => by rw [← Act.put_comm a v u h2]; exact h.2 u hu⟩
  · simp only [hw, Bool.false_eq_true, if_false] at h
    rw [← Act.put_comm a v undef h2]; exact h

/-- An operation that is not 'alone' may be taken first. -/
theorem wpX_take (N : Leans md ops kd) {B : Nat → Nat → Bool} (hcl : closB md ops B = true) (hbar : barB ops B pre = true) (hpre : pre ≤ ops.size) (hsel : Region.noSelect ops = true) {i : Nat} {oi : Oper} (hi : ops[i]? = some oi) (hip : i < pre) (hal : (kd i).alone = false) :
    ∀ (fuel : Nat) (listed : Array Bool) (σ : Nat → Value) (a : Act) (C D : World → Prop), listed.size = ops.size → BC ops B listed →
      (∀ j oj, ops[j]? = some oj → j ≠ i → listed.getD j true = false → (∀ e ∈ oj.after, Region.binds md e = true → e.on ≠ i) → oi.apart ops oj = true) →
      i ∈ Region.ready md ops listed →
      stepK P ops R1 R2 Cd kd (kd i) i (wpX P md ops R1 R2 Cd kd Q pre fuel (listed.setIfInBounds i true)) σ a C D → wpX P md ops R1 R2 Cd kd Q pre (fuel + 1) listed σ a C D := by
  intro fuel
  induction fuel with
  | zero =>
    intro listed σ a C D hsz hbc _ hr H
    unfold wpX
    rw [if_neg (by rw [preDone_of_unlisted hip (mem_ready.1 hr).1]; exact Bool.false_ne_true)]
    refine ⟨fun h => (by rw [h] at hr; cases hr), fun j hj => ⟨bar_lt hcl hbar hpre hsz hbc hj (preDone_of_unlisted hip (mem_ready.1 hr).1), ?_⟩⟩
    by_cases hji : j = i
    · subst hji; exact H
    · exfalso
      have h1 := ready_mono hj hji
      unfold stepK at H
      simp only [hi] at H
      split at H
      · have := (H.2 (kd i).w0 (kd i).hA).1
        rw [this] at h1; cases h1
      · rw [H.1] at h1; cases h1
  | succ fuel ih =>
    intro listed σ a C D hsz hbc hfree hr H
    have hnd := preDone_of_unlisted hip (mem_ready.1 hr).1
    unfold wpX
    rw [if_neg (by rw [hnd]; exact Bool.false_ne_true)]
    refine ⟨fun h => (by rw [h] at hr; cases hr), fun j hj => ⟨bar_lt hcl hbar hpre hsz hbc hj hnd, ?_⟩⟩
    by_cases hji : j = i
    · subst hji; exact H
    · have hjp := bar_lt hcl hbar hpre hsz hbc hj hnd
      have hj' := ready_mono hj hji
      obtain ⟨hjun, oj, hoj, hall⟩ := mem_ready.1 hj
      obtain ⟨hiun, oi', hoi', hall'⟩ := mem_ready.1 hr
      have hnot : ∀ e ∈ oj.after, Region.binds md e = true → e.on ≠ i := fun e he hb heq => by
        have h1 := hall e he hb
        have h0 := (mem_ready.1 hr).1
        rw [heq] at h1
        rcases Nat.lt_or_ge i listed.size with h' | h'
        · simp [h'] at h0 h1; rw [h0] at h1; cases h1
        · simp [Array.getElem?_eq_none h'] at h1
      have hnot' : ∀ e ∈ oi.after, Region.binds md e = true → e.on ≠ j := fun e he hb heq => by
        have h1 := hall' e (by rw [hi] at hoi'; cases hoi'; exact he) hb
        rw [heq] at h1
        rcases Nat.lt_or_ge j listed.size with h' | h'
        · simp [h'] at hjun h1; rw [hjun] at h1; cases h1
        · simp [Array.getElem?_eq_none h'] at h1
      have hnij : i ∉ (kd j).need := fun h => by
        obtain ⟨e, he, hb, hon⟩ := N.edge j oj hoj i h
        exact hnot e he hb hon
      have hnji : j ∉ (kd i).need := fun h => by
        obtain ⟨e, he, hb, hon⟩ := N.edge i oi hi j h
        exact hnot' e he hb hon
      have hfree' : ∀ k ok, ops[k]? = some ok → k ≠ i → (listed.setIfInBounds j true).getD k true = false →
          (∀ e ∈ ok.after, Region.binds md e = true → e.on ≠ i) → oi.apart ops ok = true := fun k ok hk hki hun hno => by
        refine hfree k ok hk hki ?_ hno
        by_cases hjk : j = k
        · subst hjk; exact hjun
        · rw [getD_set_ne true hjk] at hun; exact hun
      have hap := hfree j oj hoj hji hjun hnot
      obtain ⟨a1, a2, a3⟩ := Oper.apart_spec hap
      have hsi := fun cs b => Region.noSelect_spec hsel i oi cs b hi
      have hsj := fun cs b => Region.noSelect_spec hsel j oj cs b hoj
      have go : ∀ u0 v D', wpX P md ops R1 R2 Cd kd Q pre (fuel + 1) (listed.setIfInBounds i true) (upd σ i u0) (a.put oi.dst v) C D' → _ := fun u0 v D' hx => by
        unfold wpX at hx
        rw [if_neg (by rw [preDone_of_unlisted hjp (mem_ready.1 hj').1]; exact Bool.false_ne_true)] at hx
        exact stepK_put hoj hap hsj hnij (Ne.symm hji) (hx.2 j hj').2
      have go' : ∀ v D', wpX P md ops R1 R2 Cd kd Q pre (fuel + 1) (listed.setIfInBounds i true) σ (a.put oi.dst v) C D' → _ := fun v D' hx => by
        unfold wpX at hx
        rw [if_neg (by rw [preDone_of_unlisted hjp (mem_ready.1 hj').1]; exact Bool.false_ne_true)] at hx
        exact stepK_put' hoj hap hsj (hx.2 j hj').2
      unfold stepK at H
      simp only [hi] at H
      have hwi : ∀ u, Region.wanted oi (yielded ops (a.put oj.dst u).tmps) = Region.wanted oi (yielded ops a.tmps) := fun u => wanted_put oi a oj.dst u a3
      have hcomm : (listed.setIfInBounds i true).setIfInBounds j true = (listed.setIfInBounds j true).setIfInBounds i true := Array.setIfInBounds_comm _ _ (Ne.symm hji)
      have fin : ∀ τ u C' D', stepK P ops R1 R2 Cd kd (kd i) i (wpX P md ops R1 R2 Cd kd Q pre fuel ((listed.setIfInBounds j true).setIfInBounds i true)) τ (a.put oj.dst u) C' D' →
          wpX P md ops R1 R2 Cd kd Q pre (fuel + 1) (listed.setIfInBounds j true) τ (a.put oj.dst u) C' D' := fun τ u C' D' hs =>
        ih (listed.setIfInBounds j true) τ _ C' D' (by simpa using hsz) (hbc.set hcl hsz hj) hfree' (ready_mono hr (Ne.symm hji)) hs
      unfold stepK
      simp only [hoj]
      by_cases hw : Region.wanted oi (yielded ops a.tmps) = true
      · simp only [hw, if_true, hal, Bool.false_eq_true, if_false] at H
        have hop : ∀ C' u u0, opS P R1 R2 Cd kd (upd σ j u0) (kd i) oi (a.put oj.dst u) C' := fun C' u u0 => by
          rw [opS_put hsi a3 hnji]
          have := H.1
          unfold opS at this ⊢
          simpa only [hal, Bool.false_eq_true, if_false] using this
        have hop' : ∀ C' u, opS P R1 R2 Cd kd σ (kd i) oi (a.put oj.dst u) C' := fun C' u => by
          have := H.1
          unfold opS opR at this ⊢
          rw [execOp_put (ops := ops) oi hsi a oj.dst u a3]
          simpa only [hal, Bool.false_eq_true, if_false] using this
        split
        · rename_i hwj
          refine ⟨((go _ _ _ (H.2 (kd i).w0 (kd i).hA)).1 hwj).1, fun u hu => fin _ u _ _ ?_⟩
          unfold stepK
          simp only [hi, hwi, hw, if_true]
          refine ⟨hop _ u u, fun v hv => ?_⟩
          have h2 := ((go _ _ _ (H.2 v hv)).1 hwj).2 u hu
          rw [hcomm] at h2
          simp only [hal, Bool.false_eq_true, if_false]
          refine wpX_anti _ _ _ _ _ _ _ (fun w => ?_) h2
          cases (kd j).alone
          · exact fun ⟨⟨x, y⟩, z⟩ => ⟨⟨x, z⟩, y⟩
          · exact id
        · rename_i hwj
          refine fin σ undef _ _ ?_
          unfold stepK
          simp only [hi, hwi, hw, if_true]
          refine ⟨hop' _ _, fun v hv => ?_⟩
          have h2 := (go _ _ _ (H.2 v hv)).2 (by simpa using hwj)
          rw [hcomm] at h2
          simp only [hal, Bool.false_eq_true, if_false]
          exact h2
      · simp only [hw] at H
        split
        · rename_i hwj
          refine ⟨((go' _ _ H).1 hwj).1, fun u hu => fin _ u _ _ ?_⟩
          unfold stepK
          simp only [hi, hwi, hw]
          have h2 := ((go' _ _ H).1 hwj).2 u hu
          rw [hcomm] at h2
          exact h2
        · rename_i hwj
          refine fin σ undef _ _ ?_
          unfold stepK
          simp only [hi, hwi, hw]
          have h2 := (go' _ _ H).2 (by simpa using hwj)
          rw [hcomm] at h2
          exact h2

/-! ### The user's own order -/
def Stab (R1 R2 : World → World → Prop) (k : Kd) : Prop := (k.alone = true → ∀ v, Stable R1 (k.T v)) ∧ (k.alone = false → ∀ v, Stable R2 (k.T v))
theorem stab_det (v : Value) : Stab R1 R2 (Kd.det v) := ⟨(fun h => by cases h), fun _ _ _ _ _ _ => trivial⟩
def ordX (P : Program) (ops : Array Oper) (R1 R2 : World → World → Prop) (Cd : World → Prop) (kd : Nat → Kd) (Q : Exit → Act → World → Prop) (pre : Nat) : List (Nat × Kd) → (Nat → Value) → Act → (World → Prop) → (World → Prop) → Prop
  | [], _, a, C, D => ∀ w, Cd w → C w → D w → wpList P ops Q (ops.toList.drop pre) a w
  | (i, k) :: rest, σ, a, C, D => Stab R1 R2 k ∧ stepK P ops R1 R2 Cd kd k i (ordX P ops R1 R2 Cd kd Q pre rest) σ a C D

theorem ordX_anti : ∀ (l : List (Nat × Kd)) (σ : Nat → Value) (a : Act) (C D D' : World → Prop), (∀ w, D' w → D w) → ordX P ops R1 R2 Cd kd Q pre l σ a C D → ordX P ops R1 R2 Cd kd Q pre l σ a C D'
  | [], σ, a, C, D, D', hD, h => fun w h1 h2 h3 => h w h1 h2 (hD w h3)
  | (i, k) :: rest, σ, a, C, D, D', hD, h => ⟨h.1, stepK_mono hD (fun σ a C D D' hD hk => ordX_anti rest σ a C D D' hD hk) h.2⟩
theorem ordX_stab : ∀ (l : List (Nat × Kd)) (σ : Nat → Value) (a : Act) (C D : World → Prop), ordX P ops R1 R2 Cd kd Q pre l σ a C D → ∀ x ∈ l, Stab R1 R2 x.2
  | (i, k) :: rest, σ, a, C, D, h, x, hx => by
    rcases List.mem_cons.1 hx with rfl | hx
    · exact h.1
    · have h2 := h.2
      unfold stepK at h2
      split at h2
      · exact ordX_stab rest _ _ _ _ h2 x hx
      · split at h2
        · exact ordX_stab rest _ _ _ _ (h2.2 k.w0 k.hA) x hx
        · exact ordX_stab rest _ _ _ _ h2 x hx

theorem wpX_of_ord (N : Leans md ops kd) {B : Nat → Nat → Bool} (hcl : closB md ops B = true) (hbar : barB ops B pre = true) (hpre : pre ≤ ops.size) (hsel : Region.noSelect ops = true) :
    ∀ (l : List (Nat × Kd)) (fuel : Nat) (listed : Array Bool) (σ : Nat → Value) (a : Act) (C D : World → Prop), (∀ x ∈ l, kd x.1 = x.2) → listed.size = ops.size → BC ops B listed → l.length + (ops.size - pre) ≤ fuel →
      ordOk md ops pre (l.map fun x => (x.1, !x.2.alone)) listed = true → ordX P ops R1 R2 Cd kd Q pre l σ a C D → wpX P md ops R1 R2 Cd kd Q pre fuel listed σ a C D := by
  intro l
  induction l with
  | nil =>
    intro fuel listed σ a C D _ hsz hbc hf hB h
    simp only [List.map_nil, ordOk, Bool.and_eq_true, List.all_eq_true, List.mem_range, Bool.or_eq_true, decide_eq_true_eq, Bool.not_eq_true'] at hB
    obtain ⟨⟨hd, hu⟩, hc⟩ := hB
    have hdl : ∀ i, i < pre → listed.getD i true = true := fun i hi => List.all_eq_true.1 hd i (List.mem_range.2 hi)
    have hord : ∀ j, pre ≤ j → j < ops.size → ∃ o, ops[j]? = some o ∧ (∀ e ∈ o.after, Region.binds md e = true → e.on < j) ∧ (j = pre ∨ ∃ e ∈ o.after, Region.binds md e = true ∧ e.on = j - 1) := fun j hj hlt => by
      have := (hc j hlt).resolve_left (by omega)
      rw [Array.getElem?_eq_getElem hlt] at this
      simp only [Bool.and_eq_true, Bool.or_eq_true, decide_eq_true_eq, Array.all_eq_true_iff_forall_mem, Array.any_eq_true', Bool.not_eq_true', beq_iff_eq] at this
      refine ⟨ops[j], Array.getElem?_eq_getElem hlt, fun e he hb => ?_, ?_⟩
      · rcases this.1 e he with h1 | h1
        · rw [hb] at h1; cases h1
        · exact h1
      · rcases this.2 with h1 | ⟨e, he, h1, h2⟩
        · exact .inl h1
        · exact .inr ⟨e, he, h1, h2⟩
    have key : ∀ w, Cd w → C w → D w → wpAny P md ops Q fuel listed a w := fun w h1 h2 h3 =>
      wpAny_tail hord (ops.size - pre) pre fuel listed a w (by omega) (Nat.le_refl _) (by simpa using hf) hsz hdl (fun i h1 h2 => (hu i h2).resolve_left (by omega)) (h w h1 h2 h3)
    cases fuel with
    | zero =>
      refine ⟨?_, key⟩
      rw [List.eq_nil_iff_forall_not_mem]
      intro j hj
      obtain ⟨h0, o, ho, _⟩ := mem_ready.1 hj
      have hlt : j < ops.size := (Array.getElem?_eq_some_iff.1 ho).1
      rw [hdl j (by simp at hf; omega)] at h0
      cases h0
    | succ fuel => unfold wpX; rw [if_pos hd]; exact key
  | cons x rest ih =>
    obtain ⟨i, k⟩ := x
    intro fuel listed σ a C D hkd hsz hbc hf hB h
    obtain ⟨fuel, rfl⟩ : ∃ f, fuel = f + 1 := ⟨fuel - 1, by simp at hf; omega⟩
    have hki : kd i = k := hkd (i, k) (by simp)
    have hrest : ∀ x ∈ rest, kd x.1 = x.2 := fun x hx => hkd x (by simp [hx])
    have h' : stepK P ops R1 R2 Cd kd (kd i) i (ordX P ops R1 R2 Cd kd Q pre rest) σ a C D := by rw [hki]; exact h.2
    cases hal : k.alone with
    | false =>
      simp only [List.map_cons, hal, Bool.not_false, ordOk, Bool.and_eq_true, decide_eq_true_eq] at hB
      obtain ⟨⟨⟨hip, hr⟩, hfr⟩, hB'⟩ := hB
      have hr' : i ∈ Region.ready md ops listed := by simpa using hr
      obtain ⟨_, o, ho, _⟩ := mem_ready.1 hr'
      exact wpX_take N hcl hbar hpre hsel ho hip (by rw [hki]; exact hal) fuel listed σ a C D hsz hbc (Region.free_spec ho hfr) hr'
        (stepK_mono (fun _ h => h) (fun σ a C D D' hD hk => wpX_anti _ _ _ _ _ _ _ hD (ih fuel _ σ a C D hrest (by simpa using hsz) (hbc.set hcl hsz hr') (by simp at hf; omega) hB' hk)) h')
    | true =>
      simp only [List.map_cons, hal, Bool.not_true, ordOk, Bool.and_eq_true, decide_eq_true_eq, beq_iff_eq] at hB
      obtain ⟨⟨hip, hr⟩, hB'⟩ := hB
      have hr' : i ∈ Region.ready md ops listed := by rw [hr]; simp
      unfold wpX
      rw [if_neg (by rw [preDone_of_unlisted hip (mem_ready.1 hr').1]; exact Bool.false_ne_true)]
      refine ⟨by rw [hr]; simp, fun j hj => ?_⟩
      rw [hr] at hj
      obtain rfl : j = i := by simpa using hj
      exact ⟨hip, stepK_mono (fun _ h => h) (fun σ a C D D' hD hk => wpX_anti _ _ _ _ _ _ _ hD (ih fuel _ σ a C D hrest (by simpa using hsz) (hbc.set hcl hsz hr') (by simp at hf; omega) hB' hk)) h'⟩

def kdOf (l : List (Nat × Kd)) (i : Nat) : Kd := ((l.find? fun x => x.1 == i).map (·.2)).getD (Kd.det undef)
theorem kdOf_mem : ∀ {l : List (Nat × Kd)}, (l.map (·.1)).Nodup → ∀ x ∈ l, kdOf l x.1 = x.2
  | y :: l, h, x, hx => by
    rw [List.map_cons, List.nodup_cons] at h
    unfold kdOf
    rcases List.mem_cons.1 hx with rfl | hx
    · simp
    · have hne : (y.1 == x.1) = false := beq_eq_false_iff_ne.2 fun e => h.1 (by rw [e]; exact List.mem_map.2 ⟨x, hx, rfl⟩)
      rw [List.find?_cons, hne]
      exact kdOf_mem h.2 x hx
theorem kdOf_all {p : Kd → Prop} {l : List (Nat × Kd)} (h0 : p (Kd.det undef)) (h : ∀ x ∈ l, p x.2) (i : Nat) : p (kdOf l i) := by
  unfold kdOf
  cases hf : l.find? fun x => x.1 == i with
  | none => exact h0
  | some x => exact h x (List.mem_of_find?_eq_some hf)

/-- What leans on what, as data: closed facts. -/
def leansB (md : Region.Mode) (ops : Array Oper) (nd : List (Nat × List Nat)) : Bool :=
  nd.all fun x => match ops[x.1]? with
    | none => false
    | some o => x.2.all fun k => o.after.any (fun e => Region.binds md e && e.on == k) && (match ops[k]? with | some ok => ok.guard.isNone | none => false)
theorem kdOf_mem' {l : List (Nat × Kd)} {i : Nat} (h : (kdOf l i).need ≠ []) : (i, kdOf l i) ∈ l := by
  unfold kdOf at *
  cases hf : l.find? fun x => x.1 == i with
  | none => rw [hf] at h; exact absurd rfl h
  | some x =>
    have h1 := List.find?_some hf
    simp only [beq_iff_eq] at h1
    simp only [Option.map_some, Option.getD_some]
    rw [← h1]
    exact List.mem_of_find?_eq_some hf
theorem leans_of {l : List (Nat × Kd)} {nd : List (Nat × List Nat)} (hN : leansB md ops nd = true) (hnd : l.map (fun x => (x.1, x.2.need)) = nd) (hal : ∀ x ∈ l, ∀ k ∈ x.2.need, (kdOf l k).alone = false) : Leans md ops (kdOf l) := by
  subst hnd
  have key : ∀ i, ∀ k ∈ (kdOf l i).need, ∃ o, ops[i]? = some o ∧ (∃ e ∈ o.after, Region.binds md e = true ∧ e.on = k) ∧ ∃ ok, ops[k]? = some ok ∧ ok.guard = none := fun i k hk => by
    have hm := kdOf_mem' (l := l) (i := i) (fun h => by rw [h] at hk; cases hk)
    have hx := List.all_eq_true.1 hN (i, (kdOf l i).need) (List.mem_map.2 ⟨_, hm, rfl⟩)
    cases ho : ops[i]? with
    | none => simp only [ho] at hx; cases hx
    | some o =>
      simp only [ho] at hx
      have h2 := List.all_eq_true.1 hx k hk
      rw [Bool.and_eq_true] at h2
      obtain ⟨h3, h4⟩ := h2
      refine ⟨o, rfl, ?_, ?_⟩
      · obtain ⟨e, he, hb⟩ := Array.any_eq_true'.1 h3
        rw [Bool.and_eq_true, beq_iff_eq] at hb
        exact ⟨e, he, hb⟩
      · cases hk2 : ops[k]? with
        | none => simp only [hk2] at h4; cases h4
        | some ok => simp only [hk2, Option.isNone_iff_eq_none] at h4; exact ⟨ok, rfl, h4⟩
  refine ⟨fun i oi hoi k hk => ?_, fun i k hk => ?_⟩
  · obtain ⟨o, ho, he, _⟩ := key i k hk
    rw [hoi] at ho; cases ho
    exact he
  · obtain ⟨o, _, _, hg⟩ := key i k hk
    exact ⟨hal _ (kdOf_mem' (fun h => by rw [h] at hk; cases hk)) k hk, hg⟩

/-- A region that draws its order, walked in one chosen order. 'nd': which operation leans on which. -/
theorem wp_region_ordY {id : Nat} {a : Act} {w : World} (l : List (Nat × Kd)) (pre : Nat) (R1 R2 : World → World → Prop) (Cd C : World → Prop) (hm : P.follows .mixedOrders = true) (ix : List (Nat × Bool)) (nd : List (Nat × List Nat)) (hB : okB .any ops pre ix (befB ops) = true) (hN : leansB .any ops nd = true)
    (hix : l.map (fun x => (x.1, !x.2.alone)) = ix) (hndd : l.map (fun x => (x.1, x.2.need)) = nd) (hal : ∀ x ∈ l, ∀ k ∈ x.2.need, (kdOf l k).alone = false) (hnd : (ix.map (·.1)).Nodup) (sub : ∀ w w', R1 w w' → R2 w w') (hcd : Stable R2 Cd) (hs : Stable R1 C)
    (h1 : Cd { w with drawn := w.drawn + 1 }) (h2 : C { w with drawn := w.drawn + 1 }) (h : ordX P ops R1 R2 Cd (kdOf l) Q pre l (fun _ => undef) a C (fun _ => True)) : (Code.region id ops true).wp P Q a w := by
  have N := leans_of hN hndd hal
  subst hix
  simp only [okB, Bool.and_eq_true, decide_eq_true_eq] at hB
  obtain ⟨⟨⟨⟨⟨b1, b2⟩, b3⟩, b4⟩, b5⟩, b6⟩ := hB
  have hkd := ordX_stab _ _ _ _ _ h
  refine wp_region_any hm (wpAny_of_wpX (R1 := R1) (R2 := R2) (Cd := Cd) (kd := kdOf l) (pre := pre) ⟨sub, hcd, fun i => (kdOf_all (p := fun k => (k.alone = true → ∀ v, Stable R1 (k.T v)) ∧ (k.alone = false → ∀ v, Stable R2 (k.T v))) ⟨(fun h => by cases h), fun _ _ _ _ _ _ => trivial⟩ hkd i).1,
    fun i => (kdOf_all (p := fun k => (k.alone = true → ∀ v, Stable R1 (k.T v)) ∧ (k.alone = false → ∀ v, Stable R2 (k.T v))) ⟨(fun h => by cases h), fun _ _ _ _ _ _ => trivial⟩ hkd i).2⟩ N _ _ (fun _ => undef) _ C (fun _ => True) _ ?_ hs (fun _ _ _ _ => trivial) h1 h2 trivial ?_ (by simp))
  · refine wpX_of_ord N b1 b2 b3 b4 l _ _ _ a C _ (kdOf_mem (by rw [List.map_map] at hnd; exact hnd)) (by simp) (fun j i hj hi hl _ => ?_) (by rw [List.length_map] at b5; exact b5) b6 h
    simp [hj] at hl
  · intro i k hk hl
    obtain ⟨_, ok, hok, _⟩ := N.plain i k hk
    have hlt : k < ops.size := (Array.getElem?_eq_some_iff.1 hok).1
    simp [hlt] at hl

/-! ### One step each -/
variable {C D : World → Prop} {rest : List (Nat × Kd)} {i : Nat} {σ : Nat → Value} {a : Act} {o : Oper}
theorem ordX_det {a' : Act} {v : Value} (ho : ops[i]? = some o) (hg : o.guard = none) (h : ∀ w, Cd w → opR P o a w (fun u w' => R1 w w' ∧ u = v)) (ha : a.put o.dst v = a') (hn : ordX P ops R1 R2 Cd kd Q pre rest (upd σ i v) a' C D) :
    ordX P ops R1 R2 Cd kd Q pre ((i, Kd.det v) :: rest) σ a C D := by
  subst ha
  refine ⟨stab_det _, ?_⟩
  unfold stepK
  simp only [ho]
  rw [if_pos (by simp [Region.wanted, hg])]
  refine ⟨?_, fun u hu => ?_⟩
  · show ∀ w, Cd w → _ → _
    exact fun w hw _ => opR_mono (fun u w' h => ⟨h.1, h.2, trivial⟩) (h w hw)
  · cases hu
    exact ordX_anti rest _ _ _ _ _ (fun w h => h.1) hn
theorem ordX_yes {a' : Act} {v : Value} (ho : ops[i]? = some o) (hg : Region.wanted o (yielded ops a.tmps) = true) (h : ∀ w, Cd w → opR P o a w (fun u w' => R1 w w' ∧ u = v)) (ha : a.put o.dst v = a') (hn : ordX P ops R1 R2 Cd kd Q pre rest (upd σ i v) a' C D) :
    ordX P ops R1 R2 Cd kd Q pre ((i, Kd.det v) :: rest) σ a C D := by
  subst ha
  refine ⟨stab_det _, ?_⟩
  unfold stepK
  simp only [ho]
  rw [if_pos hg]
  refine ⟨?_, fun u hu => ?_⟩
  · show ∀ w, Cd w → _ → _
    exact fun w hw _ => opR_mono (fun u w' h => ⟨h.1, h.2, trivial⟩) (h w hw)
  · cases hu
    exact ordX_anti rest _ _ _ _ _ (fun w h => h.1) hn
theorem ordX_no {a' : Act} {v : Value} (ho : ops[i]? = some o) (hg : Region.wanted o (yielded ops a.tmps) = false) (ha : a.put o.dst undef = a') (hn : ordX P ops R1 R2 Cd kd Q pre rest σ a' C D) :
    ordX P ops R1 R2 Cd kd Q pre ((i, Kd.det v) :: rest) σ a C D := by
  subst ha
  refine ⟨stab_det _, ?_⟩
  unfold stepK
  simp only [ho]
  rw [if_neg (by simp [hg])]
  exact hn
theorem ordX_new {A : Value → Prop} {T : Value → World → Prop} {w0 : Value} {hA : A w0} {ks : List Nat} {a' : Value → Act} (hst : ∀ v, Stable R2 (T v)) (ho : ops[i]? = some o) (hg : o.guard = none) (h : ∀ w, Cd w → Nd kd σ ks w → opR P o a w (fun u w' => R1 w w' ∧ A u ∧ T u w')) (ha : ∀ v, a.put o.dst v = a' v)
    (hn : ∀ v, A v → ordX P ops R1 R2 Cd kd Q pre rest (upd σ i v) (a' v) C (fun w => D w ∧ T v w)) : ordX P ops R1 R2 Cd kd Q pre ((i, Kd.new A T w0 hA ks) :: rest) σ a C D := by
  refine ⟨⟨(fun h => by cases h), fun _ => hst⟩, ?_⟩
  unfold stepK
  simp only [ho]
  rw [if_pos (by simp [Region.wanted, hg])]
  exact ⟨h, fun v hv => by rw [ha]; exact hn v hv⟩
theorem ordX_one {A : Value → Prop} {T : Value → World → Prop} {w0 : Value} {hA : A w0} {ks : List Nat} {a' : Value → Act} (hst : ∀ v, Stable R1 (T v)) (ho : ops[i]? = some o) (hg : o.guard = none) (h : ∀ w, Cd w → C w → Nd kd σ ks w → opR P o a w (fun u w' => R2 w w' ∧ A u ∧ T u w')) (ha : ∀ v, a.put o.dst v = a' v)
    (hn : ∀ v, A v → ordX P ops R1 R2 Cd kd Q pre rest (upd σ i v) (a' v) (T v) D) : ordX P ops R1 R2 Cd kd Q pre ((i, Kd.one A T w0 hA ks) :: rest) σ a C D := by
  refine ⟨⟨fun _ => hst, (fun h => by cases h)⟩, ?_⟩
  unfold stepK
  simp only [ho]
  rw [if_pos (by simp [Region.wanted, hg])]
  exact ⟨h, fun v hv => by rw [ha]; exact hn v hv⟩
theorem ordX_nil {l : List Oper} (hl : ops.toList.drop pre = l) (h : ∀ w, Cd w → C w → D w → wpList P ops Q l a w) : ordX P ops R1 R2 Cd kd Q pre [] σ a C D := by
  show ∀ w, Cd w → C w → D w → wpList P ops Q (ops.toList.drop pre) a w
  rw [hl]; exact h
end
end Go.Sx.Y

/-
  A fourth law on regions that draw their order: as Dy, but what an operation's value is may be told of the values of those that it leans on (fn), and so may what an operation that is alone ready leaves in the world (one): a store into a thing that the region itself makes.
-/
set_option linter.unusedVariables false
namespace Go.Sx.Z
open Go.Sx

/-- What is asked of one operation: 'A' is what its value is, 'T' what its value means in the world behind it. -/
structure Kd where
  alone : Bool
  A : List Value → Value → Prop
  T : Value → World → Prop
  TA : List Value → Value → World → Prop
  w0 : List Value → Value
  hA : ∀ vs, A vs (w0 vs)
  need : List Nat

def Kd.det (v : Value) : Kd := ⟨false, fun _ u => u = v, fun _ _ => True, fun _ _ _ => True, fun _ => v, fun _ => rfl, []⟩
/-- One value, told of those that it leans on. -/
def Kd.fn (need : List Nat) (f : List Value → Value) : Kd := ⟨false, fun vs u => u = f vs, fun _ _ => True, fun _ _ _ => True, f, fun _ => rfl, need⟩
def Kd.new (A : Value → Prop) (T : Value → World → Prop) (w0 : Value) (hA : A w0) (need : List Nat := []) : Kd := ⟨false, fun _ => A, T, fun _ _ _ => True, fun _ => w0, fun _ => hA, need⟩
def Kd.one (A : Value → Prop) (TA : List Value → Value → World → Prop) (w0 : Value) (hA : A w0) (need : List Nat := []) : Kd := ⟨true, fun _ => A, fun _ _ => True, TA, fun _ => w0, fun _ => hA, need⟩

section
variable {P : Program} {ops : Array Oper} {Q : Exit → Act → World → Prop} {md : Region.Mode} {R1 R2 : World → World → Prop} {Cd : World → Prop} {pre : Nat} {kd : Nat → Kd}

def upd (σ : Nat → Value) (i : Nat) (v : Value) : Nat → Value := fun k => if k = i then v else σ k
theorem upd_same (σ : Nat → Value) (i : Nat) (v : Value) : upd σ i v i = v := if_pos rfl
theorem upd_ne (σ : Nat → Value) {i k : Nat} (v : Value) (h : k ≠ i) : upd σ i v k = σ k := if_neg h
theorem upd_comm (σ : Nat → Value) {i j : Nat} (h : i ≠ j) (v u : Value) : upd (upd σ i v) j u = upd (upd σ j u) i v := by
  funext k
  unfold upd
  by_cases h1 : k = j
  · rw [if_pos h1, if_neg (fun e => h (e.symm.trans h1)), if_pos h1]
  · rw [if_neg h1, if_neg h1]
/-- What operations have made, as far as it is asked for. -/
def Nd (kd : Nat → Kd) (σ : Nat → Value) (ks : List Nat) (w : World) : Prop := ∀ k ∈ ks, (kd k).T (σ k) w
theorem Nd_upd {σ : Nat → Value} {i : Nat} {v : Value} {ks : List Nat} (h : i ∉ ks) : Nd kd (upd σ i v) ks = Nd kd σ ks := by
  funext w
  apply propext
  unfold Nd
  constructor <;> intro hk k hm
  · have := hk k hm
    rwa [upd_ne _ _ (fun (e : _ = i) => h (by rw [← e]; exact hm))] at this
  · rw [upd_ne _ _ (fun (e : _ = i) => h (by rw [← e]; exact hm))]; exact hk k hm

theorem map_upd {σ : Nat → Value} {i : Nat} {v : Value} {ks : List Nat} (h : i ∉ ks) : ks.map (upd σ i v) = ks.map σ :=
  List.map_congr_left fun k hk => upd_ne _ _ (fun (e : _ = i) => h (by rw [← e]; exact hk))

def opS (P : Program) (R1 R2 : World → World → Prop) (Cd : World → Prop) (kd : Nat → Kd) (σ : Nat → Value) (k : Kd) (o : Oper) (a : Act) (C : World → Prop) : Prop :=
  if k.alone then ∀ w, Cd w → C w → Nd kd σ k.need w → opR P o a w (fun v w' => R2 w w' ∧ k.A (k.need.map σ) v ∧ k.TA (k.need.map σ) v w') else ∀ w, Cd w → Nd kd σ k.need w → opR P o a w (fun v w' => R1 w w' ∧ k.A (k.need.map σ) v ∧ k.T v w')

def stepK (P : Program) (ops : Array Oper) (R1 R2 : World → World → Prop) (Cd : World → Prop) (kd : Nat → Kd) (k : Kd) (i : Nat) (K : (Nat → Value) → Act → (World → Prop) → (World → Prop) → Prop) (σ : Nat → Value) (a : Act) (C D : World → Prop) : Prop :=
  match ops[i]? with
  | none => K σ a C D
  | some o =>
    if Region.wanted o (yielded ops a.tmps) then
      opS P R1 R2 Cd kd σ k o a C ∧ ∀ v, k.A (k.need.map σ) v → K (upd σ i v) (a.put o.dst v) (if k.alone then k.TA (k.need.map σ) v else C) (if k.alone then D else fun w => D w ∧ k.T v w)
    else K σ (a.put o.dst undef) C D

def wpX (P : Program) (md : Region.Mode) (ops : Array Oper) (R1 R2 : World → World → Prop) (Cd : World → Prop) (kd : Nat → Kd) (Q : Exit → Act → World → Prop) (pre : Nat) : Nat → Array Bool → (Nat → Value) → Act → (World → Prop) → (World → Prop) → Prop
  | 0, listed, _, a, C, D => Region.ready md ops listed = [] ∧ ∀ w, Cd w → C w → D w → wpAny P md ops Q 0 listed a w
  | fuel + 1, listed, σ, a, C, D =>
    if preDone pre listed then ∀ w, Cd w → C w → D w → wpAny P md ops Q (fuel + 1) listed a w
    else Region.ready md ops listed ≠ [] ∧ ∀ i ∈ Region.ready md ops listed, i < pre ∧ stepK P ops R1 R2 Cd kd (kd i) i (wpX P md ops R1 R2 Cd kd Q pre fuel (listed.setIfInBounds i true)) σ a C D

theorem stepK_mono {k : Kd} {i : Nat} {K K' : (Nat → Value) → Act → (World → Prop) → (World → Prop) → Prop} {σ : Nat → Value} {a : Act} {C D D' : World → Prop} (hD : ∀ w, D' w → D w) (hK : ∀ σ a C D D', (∀ w, D' w → D w) → K σ a C D → K' σ a C D') (h : stepK P ops R1 R2 Cd kd k i K σ a C D) :
    stepK P ops R1 R2 Cd kd k i K' σ a C D' := by
  unfold stepK at *
  split
  · rename_i ho; simp only [ho] at h; exact hK _ _ _ _ _ hD h
  · rename_i o ho
    simp only [ho] at h
    split
    · rename_i hw
      simp only [hw, if_true] at h
      refine ⟨h.1, fun v hv => hK _ _ _ _ _ (fun w => ?_) (h.2 v hv)⟩
      cases k.alone
      · exact fun ⟨x, y⟩ => ⟨hD w x, y⟩
      · exact hD w
    · rename_i hw; simp only [hw] at h; exact hK _ _ _ _ _ hD h

theorem wpX_anti : ∀ (fuel : Nat) (listed : Array Bool) (σ : Nat → Value) (a : Act) (C D D' : World → Prop), (∀ w, D' w → D w) → wpX P md ops R1 R2 Cd kd Q pre fuel listed σ a C D → wpX P md ops R1 R2 Cd kd Q pre fuel listed σ a C D' := by
  intro fuel
  induction fuel with
  | zero => intro listed σ a C D D' hD h; exact ⟨h.1, fun w h1 h2 h3 => h.2 w h1 h2 (hD w h3)⟩
  | succ fuel ih =>
    intro listed σ a C D D' hD h
    unfold wpX at h ⊢
    split
    · rename_i hd; simp only [hd, if_true] at h; exact fun w h1 h2 h3 => h w h1 h2 (hD w h3)
    · rename_i hd
      simp only [hd] at h
      exact ⟨h.1, fun i hi => ⟨(h.2 i hi).1, stepK_mono hD (fun σ a C D D' hD hk => ih _ σ a C D D' hD hk) (h.2 i hi).2⟩⟩

structure Fits2 (R1 R2 : World → World → Prop) (Cd : World → Prop) (kd : Nat → Kd) : Prop where
  sub : ∀ w w', R1 w w' → R2 w w'
  cd : Stable R2 Cd
  one : ∀ i, (kd i).alone = true → ∀ vs v, Stable R1 ((kd i).TA vs v)
  new : ∀ i, (kd i).alone = false → ∀ v, Stable R2 ((kd i).T v)

/-- What is leant on: each operation that is leant on is waited for, is not alone, and has no guard. -/
structure Leans (md : Region.Mode) (ops : Array Oper) (kd : Nat → Kd) : Prop where
  edge : ∀ i oi, ops[i]? = some oi → ∀ k ∈ (kd i).need, ∃ e ∈ oi.after, Region.binds md e = true ∧ e.on = k
  plain : ∀ i, ∀ k ∈ (kd i).need, (kd k).alone = false ∧ ∃ ok, ops[k]? = some ok ∧ ok.guard = none

theorem wpAny_of_wpX (F : Fits2 R1 R2 Cd kd) (N : Leans md ops kd) : ∀ (fuel : Nat) (listed : Array Bool) (σ : Nat → Value) (a : Act) (C D : World → Prop) (w : World), wpX P md ops R1 R2 Cd kd Q pre fuel listed σ a C D → Stable R1 C → Stable R2 D → Cd w → C w → D w →
    (∀ i, ∀ k ∈ (kd i).need, listed.getD k true = true → (kd k).T (σ k) w) → listed.size = ops.size → wpAny P md ops Q fuel listed a w := by
  intro fuel
  induction fuel with
  | zero => intro listed σ a C D w h _ _ h1 h2 h3 _ _; exact h.2 w h1 h2 h3
  | succ fuel ih =>
    intro listed σ a C D w h hs hd h1 h2 h3 hI hsz
    unfold wpX at h
    split at h
    · exact h w h1 h2 h3
    · refine ⟨fun h0 => absurd h0 h.1, fun i hi => ?_⟩
      have hk := (h.2 i hi).2
      obtain ⟨hun, oi0, hoi0, hall⟩ := mem_ready.1 hi
      have hsz' : (listed.setIfInBounds i true).size = ops.size := by simpa using hsz
      unfold stepK at hk
      unfold wpOp
      split
      · rename_i ho; rw [ho] at hoi0; cases hoi0
      · rename_i o ho
        simp only [ho] at hk
        have hND : Nd kd σ (kd i).need w := fun k hkn => by
          obtain ⟨e, he, hb, hon⟩ := N.edge i o ho k hkn
          have h4 := hall e (by rw [ho] at hoi0; cases hoi0; exact he) hb
          rw [hon] at h4
          exact hI i k hkn (by
            rcases Nat.lt_or_ge k listed.size with h' | h'
            · simp [h'] at h4 ⊢; exact h4
            · simp [Array.getElem?_eq_none h'] at h4)
        have later : ∀ (v : Value) (w' : World), R2 w w' → ((kd i).alone = false → (kd i).T v w') → ∀ i', ∀ k ∈ (kd i').need, (listed.setIfInBounds i true).getD k true = true → (kd k).T (upd σ i v k) w' := fun v w' hr hT i' k hkn hl => by
          by_cases hki : k = i
          · subst hki
            rw [upd_same]
            exact hT (N.plain i' k hkn).1
          · rw [upd_ne _ _ hki]
            rw [getD_set_ne true (Ne.symm hki)] at hl
            exact F.new k (N.plain i' k hkn).1 (σ k) w w' (hI i' k hkn hl) hr
        split
        · rename_i hw
          simp only [hw, if_true] at hk
          obtain ⟨hop, hn⟩ := hk
          unfold opS at hop
          cases hal : (kd i).alone
          · simp only [hal, Bool.false_eq_true, if_false] at hop hn
            refine .inl (opR_wp (hop w h1 hND) fun v w' ⟨k1, k2, k3⟩ => ih _ _ _ _ _ w' (hn v k2) hs ?_ (F.cd _ _ h1 (F.sub _ _ k1)) (hs _ _ h2 k1) ⟨hd _ _ h3 (F.sub _ _ k1), k3⟩ (later v w' (F.sub _ _ k1) (fun _ => k3)) hsz')
            exact fun x y hx hxy => ⟨hd x y hx.1 hxy, F.new i hal v x y hx.2 hxy⟩
          · simp only [hal, if_true] at hop hn
            exact .inl (opR_wp (hop w h1 h2 hND) fun v w' ⟨k1, k2, k3⟩ => ih _ _ _ _ _ w' (hn v k2) (F.one i hal _ v) hd (F.cd _ _ h1 k1) k3 (hd _ _ h3 k1) (later v w' k1 (fun h => by rw [hal] at h; cases h)) hsz')
        · rename_i hw
          simp only [hw] at hk
          refine ih _ _ _ _ _ _ hk hs hd h1 h2 h3 (fun i' k hkn hl => ?_) hsz'
          by_cases hki : k = i
          · subst hki
            obtain ⟨_, ok, hok, hg⟩ := N.plain i' k hkn
            rw [ho] at hok; cases hok
            exact absurd (by simp [Region.wanted, hg]) hw
          · rw [getD_set_ne true (Ne.symm hki)] at hl
            exact hI i' k hkn hl

theorem opS_put {k : Kd} {σ : Nat → Value} {oj : Oper} {dst : Option Tmp} {v u : Value} {i : Nat} (hsj : ∀ cs b, oj.op ≠ .select cs b) {a : Act} {C : World → Prop} (h1 : ∀ d, dst = some d → d ∉ oj.looksAt ops) (hn : i ∉ k.need) :
    opS P R1 R2 Cd kd (upd σ i u) k oj (a.put dst v) C = opS P R1 R2 Cd kd σ k oj a C := by
  unfold opS opR
  rw [execOp_put (ops := ops) oj hsj a dst v h1, Nd_upd hn, map_upd hn]

/-- An operation apart from another's: the same steps, the other way round. -/
theorem stepK_put {k : Kd} {σ : Nat → Value} {i j : Nat} {oi oj : Oper} (hj : ops[j]? = some oj) (hap : oi.apart ops oj = true) (hsj : ∀ cs b, oj.op ≠ .select cs b) (hn : i ∉ k.need) (hij : i ≠ j) {v u0 : Value} {K : (Nat → Value) → Act → (World → Prop) → (World → Prop) → Prop} {a : Act} {C D : World → Prop}
    (h : stepK P ops R1 R2 Cd kd k j K (upd σ i u0) (a.put oi.dst v) C D) :
    (Region.wanted oj (yielded ops a.tmps) = true → opS P R1 R2 Cd kd σ k oj a C ∧ ∀ u, k.A (k.need.map σ) u → K (upd (upd σ j u) i u0) ((a.put oj.dst u).put oi.dst v) (if k.alone then k.TA (k.need.map σ) u else C) (if k.alone then D else fun w => D w ∧ k.T u w)) ∧
    (Region.wanted oj (yielded ops a.tmps) = false → K (upd σ i u0) ((a.put oj.dst undef).put oi.dst v) C D) := by
  obtain ⟨h1, h2, h3⟩ := Oper.apart_spec hap
  unfold stepK at h
  simp only [hj] at h
  rw [wanted_put oj a oi.dst v h1, opS_put hsj h1 hn, map_upd hn] at h
  refine ⟨fun hw => ?_, fun hw => ?_⟩
  · simp only [hw, if_true] at h
    exact ⟨h.1, fun u hu => by rw [← Act.put_comm a v u h2, ← upd_comm σ hij u0 u]; exact h.2 u hu⟩
  · simp only [hw, Bool.false_eq_true, if_false] at h
    rw [← Act.put_comm a v undef h2]; exact h
/-- .. where the first one was not wanted. -/
theorem stepK_put' {k : Kd} {σ : Nat → Value} {j : Nat} {oi oj : Oper} (hj : ops[j]? = some oj) (hap : oi.apart ops oj = true) (hsj : ∀ cs b, oj.op ≠ .select cs b) {v : Value} {K : (Nat → Value) → Act → (World → Prop) → (World → Prop) → Prop} {a : Act} {C D : World → Prop}
    (h : stepK P ops R1 R2 Cd kd k j K σ (a.put oi.dst v) C D) :
    (Region.wanted oj (yielded ops a.tmps) = true → opS P R1 R2 Cd kd σ k oj a C ∧ ∀ u, k.A (k.need.map σ) u → K (upd σ j u) ((a.put oj.dst u).put oi.dst v) (if k.alone then k.TA (k.need.map σ) u else C) (if k.alone then D else fun w => D w ∧ k.T u w)) ∧
    (Region.wanted oj (yielded ops a.tmps) = false → K σ ((a.put oj.dst undef).put oi.dst v) C D) := by
  obtain ⟨h1, h2, h3⟩ := Oper.apart_spec hap
  unfold stepK at h
  simp only [hj] at h
  have he : opS P R1 R2 Cd kd σ k oj (a.put oi.dst v) C = opS P R1 R2 Cd kd σ k oj a C := by
    unfold opS opR
    rw [execOp_put (ops := ops) oj hsj a oi.dst v h1]
  rw [wanted_put oj a oi.dst v h1, he] at h
  refine ⟨fun hw => ?_, fun hw => ?_⟩
  · simp only [hw, if_true] at h
    exact ⟨h.1, fun u hu => by rw [← Act.put_comm a v u h2]; exact h.2 u hu⟩
  · simp only [hw, Bool.false_eq_true, if_false] at h
    rw [← Act.put_comm a v undef h2]; exact h

/-- An operation that is not 'alone' may be taken first. -/
theorem wpX_take (N : Leans md ops kd) {B : Nat → Nat → Bool} (hcl : closB md ops B = true) (hbar : barB ops B pre = true) (hpre : pre ≤ ops.size) (hsel : Region.noSelect ops = true) {i : Nat} {oi : Oper} (hi : ops[i]? = some oi) (hip : i < pre) (hal : (kd i).alone = false) :
    ∀ (fuel : Nat) (listed : Array Bool) (σ : Nat → Value) (a : Act) (C D : World → Prop), listed.size = ops.size → BC ops B listed →
      (∀ j oj, ops[j]? = some oj → j ≠ i → listed.getD j true = false → (∀ e ∈ oj.after, Region.binds md e = true → e.on ≠ i) → oi.apart ops oj = true) →
      i ∈ Region.ready md ops listed →
      stepK P ops R1 R2 Cd kd (kd i) i (wpX P md ops R1 R2 Cd kd Q pre fuel (listed.setIfInBounds i true)) σ a C D → wpX P md ops R1 R2 Cd kd Q pre (fuel + 1) listed σ a C D := by
  intro fuel
  induction fuel with
  | zero =>
    intro listed σ a C D hsz hbc _ hr H
    unfold wpX
    rw [if_neg (by rw [preDone_of_unlisted hip (mem_ready.1 hr).1]; exact Bool.false_ne_true)]
    refine ⟨fun h => (by rw [h] at hr; cases hr), fun j hj => ⟨bar_lt hcl hbar hpre hsz hbc hj (preDone_of_unlisted hip (mem_ready.1 hr).1), ?_⟩⟩
    by_cases hji : j = i
    · subst hji; exact H
    · exfalso
      have h1 := ready_mono hj hji
      unfold stepK at H
      simp only [hi] at H
      split at H
      · have := (H.2 _ ((kd i).hA _)).1
        rw [this] at h1; cases h1
      · rw [H.1] at h1; cases h1
  | succ fuel ih =>
    intro listed σ a C D hsz hbc hfree hr H
    have hnd := preDone_of_unlisted hip (mem_ready.1 hr).1
    unfold wpX
    rw [if_neg (by rw [hnd]; exact Bool.false_ne_true)]
    refine ⟨fun h => (by rw [h] at hr; cases hr), fun j hj => ⟨bar_lt hcl hbar hpre hsz hbc hj hnd, ?_⟩⟩
    by_cases hji : j = i
    · subst hji; exact H
    · have hjp := bar_lt hcl hbar hpre hsz hbc hj hnd
      have hj' := ready_mono hj hji
      obtain ⟨hjun, oj, hoj, hall⟩ := mem_ready.1 hj
      obtain ⟨hiun, oi', hoi', hall'⟩ := mem_ready.1 hr
      have hnot : ∀ e ∈ oj.after, Region.binds md e = true → e.on ≠ i := fun e he hb heq => by
        have h1 := hall e he hb
        have h0 := (mem_ready.1 hr).1
        rw [heq] at h1
        rcases Nat.lt_or_ge i listed.size with h' | h'
        · simp [h'] at h0 h1; rw [h0] at h1; cases h1
        · simp [Array.getElem?_eq_none h'] at h1
      have hnot' : ∀ e ∈ oi.after, Region.binds md e = true → e.on ≠ j := fun e he hb heq => by
        have h1 := hall' e (by rw [hi] at hoi'; cases hoi'; exact he) hb
        rw [heq] at h1
        rcases Nat.lt_or_ge j listed.size with h' | h'
        · simp [h'] at hjun h1; rw [hjun] at h1; cases h1
        · simp [Array.getElem?_eq_none h'] at h1
      have hnij : i ∉ (kd j).need := fun h => by
        obtain ⟨e, he, hb, hon⟩ := N.edge j oj hoj i h
        exact hnot e he hb hon
      have hnji : j ∉ (kd i).need := fun h => by
        obtain ⟨e, he, hb, hon⟩ := N.edge i oi hi j h
        exact hnot' e he hb hon
      have hfree' : ∀ k ok, ops[k]? = some ok → k ≠ i → (listed.setIfInBounds j true).getD k true = false →
          (∀ e ∈ ok.after, Region.binds md e = true → e.on ≠ i) → oi.apart ops ok = true := fun k ok hk hki hun hno => by
        refine hfree k ok hk hki ?_ hno
        by_cases hjk : j = k
        · subst hjk; exact hjun
        · rw [getD_set_ne true hjk] at hun; exact hun
      have hap := hfree j oj hoj hji hjun hnot
      obtain ⟨a1, a2, a3⟩ := Oper.apart_spec hap
      have hsi := fun cs b => Region.noSelect_spec hsel i oi cs b hi
      have hsj := fun cs b => Region.noSelect_spec hsel j oj cs b hoj
      have go : ∀ u0 v D', wpX P md ops R1 R2 Cd kd Q pre (fuel + 1) (listed.setIfInBounds i true) (upd σ i u0) (a.put oi.dst v) C D' → _ := fun u0 v D' hx => by
        unfold wpX at hx
        rw [if_neg (by rw [preDone_of_unlisted hjp (mem_ready.1 hj').1]; exact Bool.false_ne_true)] at hx
        exact stepK_put hoj hap hsj hnij (Ne.symm hji) (hx.2 j hj').2
      have go' : ∀ v D', wpX P md ops R1 R2 Cd kd Q pre (fuel + 1) (listed.setIfInBounds i true) σ (a.put oi.dst v) C D' → _ := fun v D' hx => by
        unfold wpX at hx
        rw [if_neg (by rw [preDone_of_unlisted hjp (mem_ready.1 hj').1]; exact Bool.false_ne_true)] at hx
        exact stepK_put' hoj hap hsj (hx.2 j hj').2
      unfold stepK at H
      simp only [hi] at H
      have hwi : ∀ u, Region.wanted oi (yielded ops (a.put oj.dst u).tmps) = Region.wanted oi (yielded ops a.tmps) := fun u => wanted_put oi a oj.dst u a3
      have hcomm : (listed.setIfInBounds i true).setIfInBounds j true = (listed.setIfInBounds j true).setIfInBounds i true := Array.setIfInBounds_comm _ _ (Ne.symm hji)
      have fin : ∀ τ u C' D', stepK P ops R1 R2 Cd kd (kd i) i (wpX P md ops R1 R2 Cd kd Q pre fuel ((listed.setIfInBounds j true).setIfInBounds i true)) τ (a.put oj.dst u) C' D' →
          wpX P md ops R1 R2 Cd kd Q pre (fuel + 1) (listed.setIfInBounds j true) τ (a.put oj.dst u) C' D' := fun τ u C' D' hs =>
        ih (listed.setIfInBounds j true) τ _ C' D' (by simpa using hsz) (hbc.set hcl hsz hj) hfree' (ready_mono hr (Ne.symm hji)) hs
      unfold stepK
      simp only [hoj]
      by_cases hw : Region.wanted oi (yielded ops a.tmps) = true
      · simp only [hw, if_true, hal, Bool.false_eq_true, if_false] at H
        have hop : ∀ C' u u0, opS P R1 R2 Cd kd (upd σ j u0) (kd i) oi (a.put oj.dst u) C' := fun C' u u0 => by
          rw [opS_put hsi a3 hnji]
          have := H.1
          unfold opS at this ⊢
          simpa only [hal, Bool.false_eq_true, if_false] using this
        have hop' : ∀ C' u, opS P R1 R2 Cd kd σ (kd i) oi (a.put oj.dst u) C' := fun C' u => by
          have := H.1
          unfold opS opR at this ⊢
          rw [execOp_put (ops := ops) oi hsi a oj.dst u a3]
          simpa only [hal, Bool.false_eq_true, if_false] using this
        split
        · rename_i hwj
          refine ⟨((go _ _ _ (H.2 _ ((kd i).hA _))).1 hwj).1, fun u hu => fin _ u _ _ ?_⟩
          unfold stepK
          simp only [hi, hwi, hw, if_true]
          refine ⟨hop _ u u, fun v hv => ?_⟩
          rw [map_upd hnji] at hv
          have h2 := ((go _ _ _ (H.2 v hv)).1 hwj).2 u hu
          rw [hcomm] at h2
          simp only [hal, Bool.false_eq_true, if_false]
          refine wpX_anti _ _ _ _ _ _ _ (fun w => ?_) h2
          cases (kd j).alone
          · exact fun ⟨⟨x, y⟩, z⟩ => ⟨⟨x, z⟩, y⟩
          · exact id
        · rename_i hwj
          refine fin σ undef _ _ ?_
          unfold stepK
          simp only [hi, hwi, hw, if_true]
          refine ⟨hop' _ _, fun v hv => ?_⟩
          have h2 := (go _ _ _ (H.2 v hv)).2 (by simpa using hwj)
          rw [hcomm] at h2
          simp only [hal, Bool.false_eq_true, if_false]
          exact h2
      · simp only [hw] at H
        split
        · rename_i hwj
          refine ⟨((go' _ _ H).1 hwj).1, fun u hu => fin _ u _ _ ?_⟩
          unfold stepK
          simp only [hi, hwi, hw]
          have h2 := ((go' _ _ H).1 hwj).2 u hu
          rw [hcomm] at h2
          exact h2
        · rename_i hwj
          refine fin σ undef _ _ ?_
          unfold stepK
          simp only [hi, hwi, hw]
          have h2 := (go' _ _ H).2 (by simpa using hwj)
          rw [hcomm] at h2
          exact h2

/-! ### The user's own order -/
def Stab (R1 R2 : World → World → Prop) (k : Kd) : Prop := (k.alone = true → ∀ vs v, Stable R1 (k.TA vs v)) ∧ (k.alone = false → ∀ v, Stable R2 (k.T v))
theorem stab_det (v : Value) : Stab R1 R2 (Kd.det v) := ⟨(fun h => by cases h), fun _ _ _ _ _ _ => trivial⟩
def ordX (P : Program) (ops : Array Oper) (R1 R2 : World → World → Prop) (Cd : World → Prop) (kd : Nat → Kd) (Q : Exit → Act → World → Prop) (pre : Nat) : List (Nat × Kd) → (Nat → Value) → Act → (World → Prop) → (World → Prop) → Prop
  | [], _, a, C, D => ∀ w, Cd w → C w → D w → wpList P ops Q (ops.toList.drop pre) a w
  | (i, k) :: rest, σ, a, C, D => Stab R1 R2 k ∧ stepK P ops R1 R2 Cd kd k i (ordX P ops R1 R2 Cd kd Q pre rest) σ a C D

theorem ordX_anti : ∀ (l : List (Nat × Kd)) (σ : Nat → Value) (a : Act) (C D D' : World → Prop), (∀ w, D' w → D w) → ordX P ops R1 R2 Cd kd Q pre l σ a C D → ordX P ops R1 R2 Cd kd Q pre l σ a C D'
  | [], σ, a, C, D, D', hD, h => fun w h1 h2 h3 => h w h1 h2 (hD w h3)
  | (i, k) :: rest, σ, a, C, D, D', hD, h => ⟨h.1, stepK_mono hD (fun σ a C D D' hD hk => ordX_anti rest σ a C D D' hD hk) h.2⟩
theorem ordX_stab : ∀ (l : List (Nat × Kd)) (σ : Nat → Value) (a : Act) (C D : World → Prop), ordX P ops R1 R2 Cd kd Q pre l σ a C D → ∀ x ∈ l, Stab R1 R2 x.2
  | (i, k) :: rest, σ, a, C, D, h, x, hx => by
    rcases List.mem_cons.1 hx with rfl | hx
    · exact h.1
    · have h2 := h.2
      unfold stepK at h2
      split at h2
      · exact ordX_stab rest _ _ _ _ h2 x hx
      · split at h2
        · exact ordX_stab rest _ _ _ _ (h2.2 _ (k.hA _)) x hx
        · exact ordX_stab rest _ _ _ _ h2 x hx

theorem wpX_of_ord (N : Leans md ops kd) {B : Nat → Nat → Bool} (hcl : closB md ops B = true) (hbar : barB ops B pre = true) (hpre : pre ≤ ops.size) (hsel : Region.noSelect ops = true) :
    ∀ (l : List (Nat × Kd)) (fuel : Nat) (listed : Array Bool) (σ : Nat → Value) (a : Act) (C D : World → Prop), (∀ x ∈ l, kd x.1 = x.2) → listed.size = ops.size → BC ops B listed → l.length + (ops.size - pre) ≤ fuel →
      ordOk md ops pre (l.map fun x => (x.1, !x.2.alone)) listed = true → ordX P ops R1 R2 Cd kd Q pre l σ a C D → wpX P md ops R1 R2 Cd kd Q pre fuel listed σ a C D := by
  intro l
  induction l with
  | nil =>
    intro fuel listed σ a C D _ hsz hbc hf hB h
    simp only [List.map_nil, ordOk, Bool.and_eq_true, List.all_eq_true, List.mem_range, Bool.or_eq_true, decide_eq_true_eq, Bool.not_eq_true'] at hB
    obtain ⟨⟨hd, hu⟩, hc⟩ := hB
    have hdl : ∀ i, i < pre → listed.getD i true = true := fun i hi => List.all_eq_true.1 hd i (List.mem_range.2 hi)
    have hord : ∀ j, pre ≤ j → j < ops.size → ∃ o, ops[j]? = some o ∧ (∀ e ∈ o.after, Region.binds md e = true → e.on < j) ∧ (j = pre ∨ ∃ e ∈ o.after, Region.binds md e = true ∧ e.on = j - 1) := fun j hj hlt => by
      have := (hc j hlt).resolve_left (by omega)
      rw [Array.getElem?_eq_getElem hlt] at this
      simp only [Bool.and_eq_true, Bool.or_eq_true, decide_eq_true_eq, Array.all_eq_true_iff_forall_mem, Array.any_eq_true', Bool.not_eq_true', beq_iff_eq] at this
      refine ⟨ops[j], Array.getElem?_eq_getElem hlt, fun e he hb => ?_, ?_⟩
      · rcases this.1 e he with h1 | h1
        · rw [hb] at h1; cases h1
        · exact h1
      · rcases this.2 with h1 | ⟨e, he, h1, h2⟩
        · exact .inl h1
        · exact .inr ⟨e, he, h1, h2⟩
    have key : ∀ w, Cd w → C w → D w → wpAny P md ops Q fuel listed a w := fun w h1 h2 h3 =>
      wpAny_tail hord (ops.size - pre) pre fuel listed a w (by omega) (Nat.le_refl _) (by simpa using hf) hsz hdl (fun i h1 h2 => (hu i h2).resolve_left (by omega)) (h w h1 h2 h3)
    cases fuel with
    | zero =>
      refine ⟨?_, key⟩
      rw [List.eq_nil_iff_forall_not_mem]
      intro j hj
      obtain ⟨h0, o, ho, _⟩ := mem_ready.1 hj
      have hlt : j < ops.size := (Array.getElem?_eq_some_iff.1 ho).1
      rw [hdl j (by simp at hf; omega)] at h0
      cases h0
    | succ fuel => unfold wpX; rw [if_pos hd]; exact key
  | cons x rest ih =>
    obtain ⟨i, k⟩ := x
    intro fuel listed σ a C D hkd hsz hbc hf hB h
    obtain ⟨fuel, rfl⟩ : ∃ f, fuel = f + 1 := ⟨fuel - 1, by simp at hf; omega⟩
    have hki : kd i = k := hkd (i, k) (by simp)
    have hrest : ∀ x ∈ rest, kd x.1 = x.2 := fun x hx => hkd x (by simp [hx])
    have h' : stepK P ops R1 R2 Cd kd (kd i) i (ordX P ops R1 R2 Cd kd Q pre rest) σ a C D := by rw [hki]; exact h.2
    cases hal : k.alone with
    | false =>
      simp only [List.map_cons, hal, Bool.not_false, ordOk, Bool.and_eq_true, decide_eq_true_eq] at hB
      obtain ⟨⟨⟨hip, hr⟩, hfr⟩, hB'⟩ := hB
      have hr' : i ∈ Region.ready md ops listed := by simpa using hr
      obtain ⟨_, o, ho, _⟩ := mem_ready.1 hr'
      exact wpX_take N hcl hbar hpre hsel ho hip (by rw [hki]; exact hal) fuel listed σ a C D hsz hbc (Region.free_spec ho hfr) hr'
        (stepK_mono (fun _ h => h) (fun σ a C D D' hD hk => wpX_anti _ _ _ _ _ _ _ hD (ih fuel _ σ a C D hrest (by simpa using hsz) (hbc.set hcl hsz hr') (by simp at hf; omega) hB' hk)) h')
    | true =>
      simp only [List.map_cons, hal, Bool.not_true, ordOk, Bool.and_eq_true, decide_eq_true_eq, beq_iff_eq] at hB
      obtain ⟨⟨hip, hr⟩, hB'⟩ := hB
      have hr' : i ∈ Region.ready md ops listed := by rw [hr]; simp
      unfold wpX
      rw [if_neg (by rw [preDone_of_unlisted hip (mem_ready.1 hr').1]; exact Bool.false_ne_true)]
      refine ⟨by rw [hr]; simp, fun j hj => ?_⟩
      rw [hr] at hj
      obtain rfl : j = i := by simpa using hj
      exact ⟨hip, stepK_mono (fun _ h => h) (fun σ a C D D' hD hk => wpX_anti _ _ _ _ _ _ _ hD (ih fuel _ σ a C D hrest (by simpa using hsz) (hbc.set hcl hsz hr') (by simp at hf; omega) hB' hk)) h'⟩

def kdOf (l : List (Nat × Kd)) (i : Nat) : Kd := ((l.find? fun x => x.1 == i).map (·.2)).getD (Kd.det undef)
theorem kdOf_mem : ∀ {l : List (Nat × Kd)}, (l.map (·.1)).Nodup → ∀ x ∈ l, kdOf l x.1 = x.2
  | y :: l, h, x, hx => by
    rw [List.map_cons, List.nodup_cons] at h
    unfold kdOf
    rcases List.mem_cons.1 hx with rfl | hx
    · simp
    · have hne : (y.1 == x.1) = false := beq_eq_false_iff_ne.2 fun e => h.1 (by rw [e]; exact List.mem_map.2 ⟨x, hx, rfl⟩)
      rw [List.find?_cons, hne]
      exact kdOf_mem h.2 x hx
theorem kdOf_all {p : Kd → Prop} {l : List (Nat × Kd)} (h0 : p (Kd.det undef)) (h : ∀ x ∈ l, p x.2) (i : Nat) : p (kdOf l i) := by
  unfold kdOf
  cases hf : l.find? fun x => x.1 == i with
  | none => exact h0
  | some x => exact h x (List.mem_of_find?_eq_some hf)

/-- What leans on what, as data: closed facts. -/
def leansB (md : Region.Mode) (ops : Array Oper) (nd : List (Nat × List Nat)) : Bool :=
  nd.all fun x => match ops[x.1]? with
    | none => false
    | some o => x.2.all fun k => o.after.any (fun e => Region.binds md e && e.on == k) && (match ops[k]? with | some ok => ok.guard.isNone | none => false)
theorem kdOf_mem' {l : List (Nat × Kd)} {i : Nat} (h : (kdOf l i).need ≠ []) : (i, kdOf l i) ∈ l := by
  unfold kdOf at *
  cases hf : l.find? fun x => x.1 == i with
  | none => rw [hf] at h; exact absurd rfl h
  | some x =>
    have h1 := List.find?_some hf
    simp only [beq_iff_eq] at h1
    simp only [Option.map_some, Option.getD_some]
    rw [← h1]
    exact List.mem_of_find?_eq_some hf
theorem leans_of {l : List (Nat × Kd)} {nd : List (Nat × List Nat)} (hN : leansB md ops nd = true) (hnd : l.map (fun x => (x.1, x.2.need)) = nd) (hal : ∀ x ∈ l, ∀ k ∈ x.2.need, (kdOf l k).alone = false) : Leans md ops (kdOf l) := by
  subst hnd
  have key : ∀ i, ∀ k ∈ (kdOf l i).need, ∃ o, ops[i]? = some o ∧ (∃ e ∈ o.after, Region.binds md e = true ∧ e.on = k) ∧ ∃ ok, ops[k]? = some ok ∧ ok.guard = none := fun i k hk => by
    have hm := kdOf_mem' (l := l) (i := i) (fun h => by rw [h] at hk; cases hk)
    have hx := List.all_eq_true.1 hN (i, (kdOf l i).need) (List.mem_map.2 ⟨_, hm, rfl⟩)
    cases ho : ops[i]? with
    | none => simp only [ho] at hx; cases hx
    | some o =>
      simp only [ho] at hx
      have h2 := List.all_eq_true.1 hx k hk
      rw [Bool.and_eq_true] at h2
      obtain ⟨h3, h4⟩ := h2
      refine ⟨o, rfl, ?_, ?_⟩
      · obtain ⟨e, he, hb⟩ := Array.any_eq_true'.1 h3
        rw [Bool.and_eq_true, beq_iff_eq] at hb
        exact ⟨e, he, hb⟩
      · cases hk2 : ops[k]? with
        | none => simp only [hk2] at h4; cases h4
        | some ok => simp only [hk2, Option.isNone_iff_eq_none] at h4; exact ⟨ok, rfl, h4⟩
  refine ⟨fun i oi hoi k hk => ?_, fun i k hk => ?_⟩
  · obtain ⟨o, ho, he, _⟩ := key i k hk
    rw [hoi] at ho; cases ho
    exact he
  · obtain ⟨o, _, _, hg⟩ := key i k hk
    exact ⟨hal _ (kdOf_mem' (fun h => by rw [h] at hk; cases hk)) k hk, hg⟩

/-- A region that draws its order, walked in one chosen order. 'nd': which operation leans on which. -/
theorem wp_region_ordZ {id : Nat} {a : Act} {w : World} (l : List (Nat × Kd)) (pre : Nat) (R1 R2 : World → World → Prop) (Cd C : World → Prop) (hm : P.follows .mixedOrders = true) (ix : List (Nat × Bool)) (nd : List (Nat × List Nat)) (hB : okB .any ops pre ix (befB ops) = true) (hN : leansB .any ops nd = true)
    (hix : l.map (fun x => (x.1, !x.2.alone)) = ix) (hndd : l.map (fun x => (x.1, x.2.need)) = nd) (hal : ∀ x ∈ l, ∀ k ∈ x.2.need, (kdOf l k).alone = false) (hnd : (ix.map (·.1)).Nodup) (sub : ∀ w w', R1 w w' → R2 w w') (hcd : Stable R2 Cd) (hs : Stable R1 C)
    (h1 : Cd { w with drawn := w.drawn + 1 }) (h2 : C { w with drawn := w.drawn + 1 }) (h : ordX P ops R1 R2 Cd (kdOf l) Q pre l (fun _ => undef) a C (fun _ => True)) : (Code.region id ops true).wp P Q a w := by
  have N := leans_of hN hndd hal
  subst hix
  simp only [okB, Bool.and_eq_true, decide_eq_true_eq] at hB
  obtain ⟨⟨⟨⟨⟨b1, b2⟩, b3⟩, b4⟩, b5⟩, b6⟩ := hB
  have hkd := ordX_stab _ _ _ _ _ h
  refine wp_region_any hm (wpAny_of_wpX (R1 := R1) (R2 := R2) (Cd := Cd) (kd := kdOf l) (pre := pre) ⟨sub, hcd, fun i => (kdOf_all (p := fun k => (k.alone = true → ∀ vs v, Stable R1 (k.TA vs v)) ∧ (k.alone = false → ∀ v, Stable R2 (k.T v))) ⟨(fun h => by cases h), fun _ _ _ _ _ _ => trivial⟩ hkd i).1,
    fun i => (kdOf_all (p := fun k => (k.alone = true → ∀ vs v, Stable R1 (k.TA vs v)) ∧ (k.alone = false → ∀ v, Stable R2 (k.T v))) ⟨(fun h => by cases h), fun _ _ _ _ _ _ => trivial⟩ hkd i).2⟩ N _ _ (fun _ => undef) _ C (fun _ => True) _ ?_ hs (fun _ _ _ _ => trivial) h1 h2 trivial ?_ (by simp))
  · refine wpX_of_ord N b1 b2 b3 b4 l _ _ _ a C _ (kdOf_mem (by rw [List.map_map] at hnd; exact hnd)) (by simp) (fun j i hj hi hl _ => ?_) (by rw [List.length_map] at b5; exact b5) b6 h
    simp [hj] at hl
  · intro i k hk hl
    obtain ⟨_, ok, hok, _⟩ := N.plain i k hk
    have hlt : k < ops.size := (Array.getElem?_eq_some_iff.1 hok).1
    simp [hlt] at hl

/-! ### One step each -/
variable {C D : World → Prop} {rest : List (Nat × Kd)} {i : Nat} {σ : Nat → Value} {a : Act} {o : Oper}
theorem ordX_det {a' : Act} {v : Value} (ho : ops[i]? = some o) (hg : o.guard = none) (h : ∀ w, Cd w → opR P o a w (fun u w' => R1 w w' ∧ u = v)) (ha : a.put o.dst v = a') (hn : ordX P ops R1 R2 Cd kd Q pre rest (upd σ i v) a' C D) :
    ordX P ops R1 R2 Cd kd Q pre ((i, Kd.det v) :: rest) σ a C D := by
  subst ha
  refine ⟨stab_det _, ?_⟩
  unfold stepK
  simp only [ho]
  rw [if_pos (by simp [Region.wanted, hg])]
  refine ⟨?_, fun u hu => ?_⟩
  · show ∀ w, Cd w → _ → _
    exact fun w hw _ => opR_mono (fun u w' h => ⟨h.1, h.2, trivial⟩) (h w hw)
  · cases hu
    exact ordX_anti rest _ _ _ _ _ (fun w h => h.1) hn
theorem ordX_yes {a' : Act} {v : Value} (ho : ops[i]? = some o) (hg : Region.wanted o (yielded ops a.tmps) = true) (h : ∀ w, Cd w → opR P o a w (fun u w' => R1 w w' ∧ u = v)) (ha : a.put o.dst v = a') (hn : ordX P ops R1 R2 Cd kd Q pre rest (upd σ i v) a' C D) :
    ordX P ops R1 R2 Cd kd Q pre ((i, Kd.det v) :: rest) σ a C D := by
  subst ha
  refine ⟨stab_det _, ?_⟩
  unfold stepK
  simp only [ho]
  rw [if_pos hg]
  refine ⟨?_, fun u hu => ?_⟩
  · show ∀ w, Cd w → _ → _
    exact fun w hw _ => opR_mono (fun u w' h => ⟨h.1, h.2, trivial⟩) (h w hw)
  · cases hu
    exact ordX_anti rest _ _ _ _ _ (fun w h => h.1) hn
theorem ordX_no {a' : Act} {v : Value} (ho : ops[i]? = some o) (hg : Region.wanted o (yielded ops a.tmps) = false) (ha : a.put o.dst undef = a') (hn : ordX P ops R1 R2 Cd kd Q pre rest σ a' C D) :
    ordX P ops R1 R2 Cd kd Q pre ((i, Kd.det v) :: rest) σ a C D := by
  subst ha
  refine ⟨stab_det _, ?_⟩
  unfold stepK
  simp only [ho]
  rw [if_neg (by simp [hg])]
  exact hn
theorem ordX_new {A : Value → Prop} {T : Value → World → Prop} {w0 : Value} {hA : A w0} {ks : List Nat} {a' : Value → Act} (hst : ∀ v, Stable R2 (T v)) (ho : ops[i]? = some o) (hg : o.guard = none) (h : ∀ w, Cd w → Nd kd σ ks w → opR P o a w (fun u w' => R1 w w' ∧ A u ∧ T u w')) (ha : ∀ v, a.put o.dst v = a' v)
    (hn : ∀ v, A v → ordX P ops R1 R2 Cd kd Q pre rest (upd σ i v) (a' v) C (fun w => D w ∧ T v w)) : ordX P ops R1 R2 Cd kd Q pre ((i, Kd.new A T w0 hA ks) :: rest) σ a C D := by
  refine ⟨⟨(fun h => by cases h), fun _ => hst⟩, ?_⟩
  unfold stepK
  simp only [ho]
  rw [if_pos (by simp [Region.wanted, hg])]
  exact ⟨h, fun v hv => by rw [ha]; exact hn v hv⟩
theorem ordX_one {A : Value → Prop} {T : List Value → Value → World → Prop} {w0 : Value} {hA : A w0} {ks : List Nat} {a' : Value → Act} (hst : ∀ vs v, Stable R1 (T vs v)) (ho : ops[i]? = some o) (hg : o.guard = none) (h : ∀ w, Cd w → C w → Nd kd σ ks w → opR P o a w (fun u w' => R2 w w' ∧ A u ∧ T (ks.map σ) u w')) (ha : ∀ v, a.put o.dst v = a' v)
    (hn : ∀ v, A v → ordX P ops R1 R2 Cd kd Q pre rest (upd σ i v) (a' v) (T (ks.map σ) v) D) : ordX P ops R1 R2 Cd kd Q pre ((i, Kd.one A T w0 hA ks) :: rest) σ a C D := by
  refine ⟨⟨fun _ => hst, (fun h => by cases h)⟩, ?_⟩
  unfold stepK
  simp only [ho]
  rw [if_pos (by simp [Region.wanted, hg])]
  exact ⟨h, fun v hv => by rw [ha]; exact hn v hv⟩
theorem ordX_nil {l : List Oper} (hl : ops.toList.drop pre = l) (h : ∀ w, Cd w → C w → D w → wpList P ops Q l a w) : ordX P ops R1 R2 Cd kd Q pre [] σ a C D := by
  show ∀ w, Cd w → C w → D w → wpList P ops Q (ops.toList.drop pre) a w
  rw [hl]; exact h
end
end Go.Sx.Z

/-
  Small words for my walks: 'Ext' (nothing that was there has turned), 'Sl' (a slice value that reads as a list), owned rows as slices.
-/
namespace Go.Sx
open Go.RowKit

/-- Nothing that was there has turned. -/
def Ext (w w' : World) : Prop := Below w.heap.size w w'

theorem Ext.refl (w : World) : Ext w w := Below.refl _ _
theorem Ext.trans {a b c : World} (h : Ext a b) (k : Ext b c) : Ext a c := Below.trans h (Below.mono k h.size)
theorem Ext.drew {a w : World} (h : Ext a w) : Ext a w.drew := Below.drew h
theorem Ext.drawn (w : World) (n : Nat) : Ext w { w with drawn := n } := ⟨rfl, rfl, rfl, Nat.le_refl _, fun _ _ => rfl⟩
theorem Ext.alloc {a w : World} (h : Ext a w) (o : Obj) : Ext a (w.alloc o) := Below.alloc h h.size o
theorem Ext.alloc' (w : World) (o : Obj) : Ext w (w.alloc o) := (Ext.refl w).alloc o
theorem Ext.setCell {a w : World} (h : Ext a w) {p : Addr} (hp : a.heap.size ≤ p.block) (u : Value) : Ext a (w.setCell p u) := Below.setCell h hp u
theorem Ext.below {B : Nat} {w w' : World} (h : Ext w w') (hB : B ≤ w.heap.size) : Below B w w' := Below.mono h hB
theorem lt_of_cell {w : World} {p : Addr} {v : Value} (h : w.cell? p = some v) : p.block < w.heap.size := by
  unfold World.cell? at h
  rcases Nat.lt_or_ge p.block w.heap.size with h' | h'
  · exact h'
  · rw [Array.getElem?_eq_none h'] at h; cases h

theorem Ext.cell {w w' : World} (h : Ext w w') {p : Addr} {v : Value} (hc : w.cell? p = some v) : w'.cell? p = some v :=
  (Below.cell h (lt_of_cell hc)).trans hc
theorem Below.cellc {B : Nat} {w w' : World} (h : Below B w w') {p : Addr} {v : Value} (hB : p.block < B) (hc : w.cell? p = some v) : w'.cell? p = some v :=
  (h.cell hB).trans hc

theorem stable_ext (w0 : World) : Stable Ext (Ext w0) := fun _ _ h k => h.trans k

/-- A slice value reads as xs: each element 'sz' cells, given by enc. -/
def Sl {α : Type} (w : World) (sz : Nat) (enc : α → List Value) (v : Value) (xs : List α) : Prop :=
  ∃ a? cap, v = .slice a? xs.length cap ∧ xs.length ≤ cap ∧ cap ≤ maxLen ∧ xs.length ≤ 140737488351232 ∧
    ∀ i (h : i < xs.length), ∃ a, a? = some a ∧ ∀ j, j < sz → w.cell? (a.add (i * sz + j)) = some ((enc xs[i]).getD j undef)

theorem Sl.ext {α : Type} {w w' : World} {sz : Nat} {enc : α → List Value} {v : Value} {xs : List α} (h : Sl w sz enc v xs) (k : Ext w w') : Sl w' sz enc v xs := by
  obtain ⟨a?, cap, rfl, h1, h2, h3, h4⟩ := h
  exact ⟨a?, cap, rfl, h1, h2, h3, fun i hi => let ⟨a, ha, hc⟩ := h4 i hi; ⟨a, ha, fun j hj => k.cell (hc j hj)⟩⟩

theorem spot_none {w : World} {a : Addr} {v : Value} (h : w.cell? a = some v) : a.spot = none := by
  unfold World.cell? at h
  split at h
  · split at h
    · cases h
    · rename_i h'; simpa using h'
  · cases h
theorem Sl.at {α : Type} {w : World} {sz : Nat} {enc : α → List Value} {a? : Option Addr} {n cap : Nat} {xs : List α} (h : Sl w sz enc (.slice a? n cap) xs) (hsz : 0 < sz) (k : Nat) (hk : k < xs.length) :
    ∃ b o, a? = some ⟨b, o, none⟩ ∧ ∀ j, j < sz → w.cell? ⟨b, o + k * sz + j, none⟩ = some ((enc xs[k]).getD j undef) := by
  obtain ⟨_, _, e, _, _, _, h4⟩ := h
  cases e
  obtain ⟨a0, rfl, hc0⟩ := h4 0 (by omega)
  obtain ⟨a, ha, hc⟩ := h4 k hk
  cases ha
  have h0 : a0.spot = none := spot_none (by simpa [Addr.add_zero'] using hc0 0 hsz)
  obtain ⟨b, o, s⟩ := a0
  cases h0
  exact ⟨b, o, rfl, fun j hj => by rw [← hc j hj, Addr.add_lit, Nat.add_assoc]⟩
theorem Sl.at1 {α : Type} {w : World} {enc : α → List Value} {a? : Option Addr} {n cap : Nat} {xs : List α} (h : Sl w 1 enc (.slice a? n cap) xs) (k : Nat) (hk : k < xs.length) :
    ∃ b o, a? = some ⟨b, o, none⟩ ∧ w.cell? ⟨b, o + k, none⟩ = some ((enc xs[k]).getD 0 undef) := by
  obtain ⟨b, o, e, hc⟩ := h.at (by omega) k hk
  exact ⟨b, o, e, by simpa using hc 0 (by omega)⟩
theorem Sl.len {α : Type} {w : World} {sz : Nat} {enc : α → List Value} {v : Value} {xs : List α} (h : Sl w sz enc v xs) : ∃ a? cap, v = .slice a? xs.length cap ∧ xs.length ≤ cap ∧ cap ≤ maxLen ∧ xs.length ≤ 140737488351232 := by
  obtain ⟨a?, cap, e, h1, h2, h3, _⟩ := h; exact ⟨a?, cap, e, h1, h2, h3⟩

theorem Sl.nil {α : Type} (w : World) (sz : Nat) (enc : α → List Value) : Sl w sz enc (.slice none 0 0) [] :=
  ⟨none, 0, rfl, Nat.le_refl _, by simp [maxLen], by simp, fun i hi => absurd hi (Nat.not_lt_zero _)⟩

/-- What follows in memory when only the class 'Ext w0' is known of the world. -/
theorem ext_cells {w0 : World} {p : Addr} {v : Value} (h : w0.cell? p = some v) : ∀ w, Ext w0 w → w.cell? p = some v := fun _ k => k.cell h

/-! ### Rows that the call owns, typed -/

def OwnR {α : Type} (w : World) (B : Nat) (e : TypeId) (sz : Nat) (enc : α → List Value) (v : Value) (xs : List α) : Prop :=
  w.ownsRow B e sz v xs.length (xs.flatMap enc)

structure ET (P : Program) (t e : TypeId) (sz bytes : Nat) : Prop where
  ht : P.underlying t = some (.slice e)
  hi : ∃ i z, P.info? e = some i ∧ i.zero = some z ∧ i.size = sz ∧ i.bytes = bytes ∧ z.cells.size = sz
  hs : 0 < sz
  hb : 0 < bytes

theorem ET.mk' {P : Program} {t e : TypeId} {sz bytes : Nat} {z : Value} (ht : P.underlying t = some (.slice e)) (h : (P.info? e).map (fun i => (i.zero, i.size, i.bytes)) = some (some z, sz, bytes))
    (hz : z.cells.size = sz) (hs : 0 < sz) (hb : 0 < bytes) : ET P t e sz bytes := by
  obtain ⟨i0, hi, hz0, hz1, hz2⟩ := info_parts h
  exact ⟨ht, ⟨i0, z, hi, hz0, hz1, hz2, hz⟩, hs, hb⟩

section own
variable {α : Type} {B : Nat} {e : TypeId} {sz : Nat} {enc : α → List Value} {v : Value} {xs : List α} {w : World}

theorem OwnR.nil : OwnR w B e sz enc (.slice none 0 0) ([] : List α) := World.ownsRow_nil w B e sz
theorem OwnR.alloc (h : OwnR w B e sz enc v xs) (o : Obj) : OwnR (w.alloc o) B e sz enc v xs := World.ownsRow.alloc h o
theorem OwnR.drew (h : OwnR w B e sz enc v xs) : OwnR w.drew B e sz enc v xs := h
theorem OwnR.ext {w' : World} (h : OwnR w B e sz enc v xs) (k : Ext w w') : OwnR w' B e sz enc v xs :=
  World.ownsRow.kept (row := none) h ⟨k.os, k.tape, k.output, k.size, fun b hb _ => k.block b hb⟩ (by cases v.ownBlock <;> simp)
theorem OwnR.mono {B' : Nat} (h : OwnR w B e sz enc v xs) (hB : B' ≤ B) : OwnR w B' e sz enc v xs := by
  obtain ⟨h1, h2⟩ := h
  exact ⟨h1, h2.imp id fun ⟨g, cap, cur, a, b, c⟩ => ⟨g, cap, cur, a, Nat.le_trans hB b, c⟩⟩
/-- What lies from block B on is kept where below B' nothing turns, and the row lies below B'. -/
theorem OwnR.below {B' : Nat} {w' : World} (h : OwnR w B e sz enc v xs) (k : Below B' w w') (hv : ∀ a n c, v = .slice (some a) n c → a.block < B') : OwnR w' B e sz enc v xs := by
  obtain ⟨h1, h2⟩ := h
  refine ⟨h1, h2.imp id fun ⟨g, cap, cur, a, b, c, d⟩ => ⟨g, cap, cur, a, b, ?_, d⟩⟩
  rw [k.block g (hv _ _ _ a)]; exact c

theorem flatMap_get (hl : ∀ x ∈ xs, (enc x).length = sz) (i j : Nat) (hi : i < xs.length) (hj : j < sz) : (xs.flatMap enc)[i * sz + j]? = some ((enc xs[i]).getD j undef) := by
  induction xs generalizing i with
  | nil => simp at hi
  | cons x xs ih =>
    have h0 := hl x (by simp)
    rw [List.flatMap_cons]
    cases i with
    | zero =>
      rw [List.getElem?_append_left (by omega)]
      simp [List.getD, List.getElem?_eq_getElem (show j < (enc x).length by omega)]
    | succ i =>
      rw [List.getElem?_append_right (by rw [h0, Nat.succ_mul]; omega), h0, show (i + 1) * sz + j - sz = i * sz + j by rw [Nat.succ_mul]; omega]
      exact ih (fun y hy => hl y (by simp [hy])) i (by simpa using hi)

theorem OwnR.sl (h : OwnR w B e sz enc v xs) (hl : ∀ x ∈ xs, (enc x).length = sz) (hb : xs.length ≤ 140737488351232) : Sl w sz enc v xs := by
  have hc := fun g hg => World.ownsRow.cells h (g := g) hg
  obtain ⟨h1, ⟨rfl, h0⟩ | ⟨g, cap, cur, rfl, hB, hg, hn, hm, hsz, ht⟩⟩ := h
  · exact ⟨none, 0, by rw [h0], by omega, by simp [maxLen], hb, fun i hi => by omega⟩
  · refine ⟨_, cap, rfl, hn, hm, hb, fun i hi => ⟨_, rfl, fun j hj => ?_⟩⟩
    exact hc g rfl _ _ (flatMap_get hl i j hi hj)

theorem OwnR.lt (h : OwnR w B e sz enc v xs) {a : Addr} {n c : Nat} (hv : v = .slice (some a) n c) : B ≤ a.block ∧ a.block < w.heap.size :=
  World.ownsRow.lt h a.block (by rw [hv]; rfl)
theorem OwnR.len (h : OwnR w B e sz enc v xs) : ∃ a? c, v = .slice a? xs.length c := by
  obtain ⟨_, ⟨rfl, h0⟩ | ⟨g, cap, cur, rfl, _⟩⟩ := h
  · exact ⟨none, 0, by rw [h0]⟩
  · exact ⟨_, _, rfl⟩

theorem alloc_cells (w : World) (cs : Array Value) (e : TypeId) (j : Nat) (u : Value) (h : cs.toList[j]? = some u) : (w.alloc (.cells cs e)).cell? ((⟨w.heap.size, 0, none⟩ : Addr).add j) = some u := by
  have h' : cs[j]? = some u := by simpa using h
  have hh : (w.alloc (.cells cs e)).heap[w.heap.size]? = some (.cells cs e) := by
    show (w.heap.push _)[w.heap.size]? = _
    simp
  have hb : ((⟨w.heap.size, 0, none⟩ : Addr).add j) = ⟨w.heap.size, j, none⟩ := by unfold Addr.add; split <;> simp_all
  rw [hb]
  unfold World.cell?
  rw [hh]
  exact h'

theorem alloc_cell (w : World) (cs : Array Value) (e : TypeId) (j : Nat) (u : Value) (h : cs.toList[j]? = some u) : (w.alloc (.cells cs e)).cell? ⟨w.heap.size, j, none⟩ = some u := by
  have := alloc_cells w cs e j u h
  have hb : ((⟨w.heap.size, 0, none⟩ : Addr).add j) = ⟨w.heap.size, j, none⟩ := by unfold Addr.add; split <;> simp_all
  rwa [hb] at this

/-- The result of an append lies where the old row lay, or in a new block. -/
theorem append_place {P : Program} (w : World) (base : Nat) (t ty e : TypeId) (i : TypeInfo) (z : Value) (size bytes : Nat) (ht : P.underlying t = some (.slice e)) (hi : P.info? e = some i) (hz : i.zero = some z)
    (hsize : i.size = size) (hby : i.bytes = bytes) (hzs : z.cells.size = size) (hsz : 0 < size)
    (v : Value) (n : Nat) (xs : List Value) (hown : w.ownsRow base e size v n xs)
    (a : Addr) (m c : Nat) (news : List Value) (hl : news.length = m * size) (hnews : ∀ j u, news[j]? = some u → w.cell? (a.add j) = some u) (h1 : ∀ u ∈ news, u.oneCell' = true)
    (h63 : n + m ≤ maxLen) (hbytes : (n + m) * bytes ≤ 140737488355328) (v' : Value) (w' : World) (hrun : (Builtin.append_ #[t, t] ty #[v, .slice (some a) m c]).run P w = .ok v' w') :
    v'.ownBlock = v.ownBlock ∨ ∃ b, v'.ownBlock = some b ∧ w.heap.size ≤ b := by
  subst hsize
  subst hby
  have hsmall : n + m ≤ 9223372036854775807 := by simp only [maxLen] at h63; omega
  have hown' := hown
  rcases hown.2 with ⟨rfl, rfl⟩ | ⟨g, cap, cur, rfl, hbg, hg, hnc, hcm, hcs, htake⟩
  · by_cases hm : m = 0
    · subst hm
      have hn : news = [] := List.eq_nil_of_length_eq_zero (by simpa using hl)
      subst hn
      have hr : (Builtin.append_ #[t, t] ty #[.slice none 0 0, .slice (some a) 0 c]).run P w = .ok (.slice none 0 0) w := by
        simp [Builtin.append_, run_underlying ht, sizeOf, typeInfo, hi, Builtin.lenOf, Builtin.firstCells, loadCells, loadCellsFrom]
      rw [hr] at hrun; cases hrun; exact .inl rfl
    · have hr := run_append_nil (P := P) w t ty e i z ht hi hz a m c news hl hnews (by omega) (by omega) (by have hb := hbytes; simp only [Nat.zero_add] at hb; omega)
      rw [hr] at hrun; cases hrun; exact .inr ⟨_, rfl, Nat.le_refl _⟩
  · by_cases hroom : n + m ≤ cap
    · have hfit : n * i.size + news.length ≤ cur.size := by rw [hl, hcs, ← Nat.add_mul]; exact Nat.mul_le_mul_right _ hroom
      have hr := run_append_room (P := P) w t ty e i ht hi g n cap cur hg a m c news hl hnews h1 hroom hfit
      rw [hr] at hrun; cases hrun; exact .inl rfl
    · have holds : ∀ j u, xs[j]? = some u → w.cell? ((⟨g, 0, none⟩ : Addr).add j) = some u := hown.cells (g := g) rfl
      have hr := run_append_grow (P := P) w t ty e i z ht hi hz ⟨g, 0, none⟩ n cap xs hown.1 holds a m c news hl hnews (by omega) (by omega) (growslice_fits (by omega) hbytes)
      rw [hr] at hrun; cases hrun; exact .inr ⟨_, rfl, Nat.le_refl _⟩

/-- What an append to an own row does to the world: block b stays, if it is not the row's; the result lies in the same block or in a new one. -/
structure Appd (w w' : World) (v v' : Value) : Prop where
  kept : ∀ b, b < w.heap.size → some b ≠ v.ownBlock → w'.heap[b]? = w.heap[b]?
  place : v'.ownBlock = v.ownBlock ∨ ∃ b, v'.ownBlock = some b ∧ w.heap.size ≤ b
  size : w.heap.size ≤ w'.heap.size
  os : w'.os = w.os
  tape : w'.tape = w.tape
  output : w'.output = w.output

theorem Appd.sl {α : Type} {w w' : World} {v v' u : Value} (h : Appd w w' v v') {sz : Nat} {enc : α → List Value} {xs : List α} (s : Sl w sz enc u xs) (hne : ∀ a n c, u = .slice (some a) n c → v.ownBlock ≠ some a.block) : Sl w' sz enc u xs := by
  obtain ⟨a?, cap, rfl, h1, h2, h3, h4⟩ := s
  refine ⟨a?, cap, rfl, h1, h2, h3, fun i hi => ?_⟩
  obtain ⟨a, rfl, hc⟩ := h4 i hi
  refine ⟨a, rfl, fun j hj => ?_⟩
  have hc' := hc j hj
  have hb : (a.add (i * sz + j)).block = a.block := by unfold Addr.add; split <;> rfl
  refine (World.cell?_of_block (w := w) (h.kept _ (lt_of_cell hc') ?_)).trans hc'
  rw [hb]; exact fun e => hne a _ _ rfl e.symm

/-- The result's block is no block of what lay apart from the old row. -/
theorem Appd.apart {w w' : World} {v v' : Value} (h : Appd w w' v v') {b : Nat} (hb : b < w.heap.size) (hne : v.ownBlock ≠ some b) : v'.ownBlock ≠ some b := by
  rcases h.place with e | ⟨c, e, hc⟩
  · rw [e]; exact hne
  · rw [e]; intro e'; cases e'; omega

theorem Appd.cell {w w' : World} {v v' : Value} (h : Appd w w' v v') {p : Addr} {x : Value} (hne : v.ownBlock ≠ some p.block) (hc : w.cell? p = some x) : w'.cell? p = some x :=
  (World.cell?_of_block (w := w) (h.kept _ (lt_of_cell hc) (fun e => hne e.symm))).trans hc
theorem add_block (a : Addr) (n : Nat) : (a.add n).block = a.block := by unfold Addr.add; split <;> rfl

/-- A slice that reads as xs and shares no block with the own row v. -/
def SlA {α : Type} (w : World) (v : Value) (sz : Nat) (enc : α → List Value) (u : Value) (xs : List α) : Prop :=
  Sl w sz enc u xs ∧ (xs ≠ [] → ∀ a n c, u = .slice (some a) n c → v.ownBlock ≠ some a.block)

theorem SlA.appd {α : Type} {w w' : World} {v v' u : Value} {sz : Nat} {enc : α → List Value} {xs : List α} (s : SlA w v sz enc u xs) (h : Appd w w' v v') (hsz : 0 < sz) : SlA w' v' sz enc u xs := by
  obtain ⟨s, hne⟩ := s
  by_cases hx : xs = []
  · subst hx
    obtain ⟨a?, cap, rfl, h1, h2, h3, _⟩ := s
    exact ⟨⟨a?, cap, rfl, h1, h2, h3, fun i hi => absurd hi (Nat.not_lt_zero _)⟩, fun h => absurd rfl h⟩
  · refine ⟨h.sl s (hne hx), fun _ a n c e => ?_⟩
    have hn := hne hx a n c e
    obtain ⟨a?, cap, rfl, h1, h2, h3, h4⟩ := s
    have hpos : 0 < xs.length := by cases xs with | nil => exact absurd rfl hx | cons _ _ => simp
    obtain ⟨a', rfl, hc⟩ := h4 0 hpos
    cases e
    have hc' := lt_of_cell (hc 0 hsz)
    have hb : (a.add (0 * sz + 0)).block = a.block := by unfold Addr.add; split <;> rfl
    rw [hb] at hc'
    rcases h.place with e | ⟨b, e, hb'⟩
    · rw [e]; exact hn
    · rw [e]; intro e'; cases e'; omega

theorem SlA.ext {α : Type} {w w' : World} {v u : Value} {sz : Nat} {enc : α → List Value} {xs : List α} (s : SlA w v sz enc u xs) (h : Ext w w') : SlA w' v sz enc u xs := ⟨s.1.ext h, s.2⟩

/-- append of one new row: the row's cells are those of ys. -/
theorem wpList_own_app {P : Program} {t : TypeId} {bytes : Nat} (E : ET P t e sz bytes) {ops : Array Oper} {rest : List Oper} {o : Oper} {a : Act} {Q : Exit → Act → World → Prop} (hgd : o.guard = none) (s x : Operand)
    (ho : o.op = .call { callee := .builtin .append, args := #[s, x], argTypes := #[t, t] })
    (hown : OwnR w B e sz enc v xs) (hs : a.eval s = v) (ys : List α) (ad : Addr) (c : Nat) (hx : a.eval x = .slice (some ad) ys.length c) (hl : ∀ y ∈ ys, (enc y).length = sz)
    (hnews : ∀ j u, (ys.flatMap enc)[j]? = some u → w.cell? (ad.add j) = some u) (h1 : ∀ y ∈ ys, ∀ u ∈ enc y, u.oneCell' = true)
    (hbytes : (xs.length + ys.length) * bytes ≤ 140737488355328) (hbase : B ≤ w.heap.size)
    (h : ∀ v' w', OwnR w' B e sz enc v' (xs ++ ys) → Below B w w' → Appd w w' v v' → (v' = .slice none 0 0 ↔ v = .slice none 0 0 ∧ ys.length = 0) → wpList P ops Q rest (a.put o.dst v') w') : wpList P ops Q (o :: rest) a w := by
  obtain ⟨ht, ⟨i, z, hi, hz, hsz, hby, hzs⟩, hs0, hb0⟩ := E
  have hlen : (ys.flatMap enc).length = ys.length * sz := by
    clear hnews hbytes h hx h1
    induction ys with
    | nil => simp
    | cons y ys ih => rw [List.flatMap_cons, List.length_append, hl y (by simp), ih (fun z hz => hl z (by simp [hz])), List.length_cons, Nat.succ_mul]; omega
  have hn : xs.length + ys.length ≤ (xs.length + ys.length) * bytes := Nat.le_mul_of_pos_right _ hb0
  have h63 : xs.length + ys.length ≤ maxLen := by simp only [maxLen]; omega
  have h1' : ∀ u ∈ ys.flatMap enc, u.oneCell' = true := fun u hu => by obtain ⟨y, hy, hu⟩ := List.mem_flatMap.1 hu; exact h1 y hy u hu
  obtain ⟨v', w', hr, h2, h3, h4⟩ := run_append_own (P := P) w B t o.type e i z sz bytes ht hi hz hsz hby hzs hs0 v xs.length _ hown ad ys.length c _ hlen hnews h1' h63 hbytes hbase
  have hp := append_place w B t o.type e i z sz bytes ht hi hz hsz hby hzs hs0 v xs.length _ hown ad ys.length c _ hlen hnews h1' h63 hbytes v' w' hr
  refine wpList_plain hgd fun K hK => ?_
  unfold Oper.wp execOp
  simp only [ho, resolve, invoke, builtin, Sem.run_bind, Sem.run_pure, Result.andThen_ok, List.map_toArray, List.map_cons, List.map_nil, hs, hx, hr]
  refine hK _ _ (h v' w' ?_ ?_ ⟨fun b hb hne => h3.block b hb hne, hp, h3.size, h3.os, h3.tape, h3.output⟩ h4)
  · unfold OwnR; rw [List.length_append, List.flatMap_append]; exact h2
  · exact (Below.refl B w).grown h3 hbase fun k hk => (World.ownsRow.lt hown k hk).1

/-- append of one element that lies in a row just made. -/
theorem wpList_own1 {P : Program} {t : TypeId} {bytes : Nat} (E : ET P t e sz bytes) {ops : Array Oper} {rest : List Oper} {o : Oper} {a : Act} {Q : Exit → Act → World → Prop} {cs : Array Value} (hgd : o.guard = none) (s x : Operand)
    (ho : o.op = .call { callee := .builtin .append, args := #[s, x], argTypes := #[t, t] })
    (hown : OwnR w B e sz enc v xs) (hs : a.eval s = v) (y : α) {bb : Nat} (hx : a.eval x = .slice (some ⟨bb, 0, none⟩) 1 1) (hcs : cs.toList = enc y) (hl : (enc y).length = sz)
    (h1 : ∀ u ∈ enc y, u.oneCell' = true)
    (hbytes : (xs.length + 1) * bytes ≤ 140737488355328) (hbase : B ≤ w.heap.size)
    (h : ∀ v' w', OwnR w' B e sz enc v' (xs ++ [y]) → Below B w w' → Appd w w' v v' → (∃ g c, v' = .slice (some ⟨g, 0, none⟩) (xs.length + 1) c) → wpList P ops Q rest (a.put o.dst v') w') (hbb : bb = w.heap.size := by simp) : wpList P ops Q (o :: rest) a (w.alloc (.cells cs e)) := by
  subst hbb
  refine wpList_own_app E hgd s x ho (hown.alloc _) hs [y] _ 1 hx (by simpa using hl) (fun j u hu => alloc_cells w cs e j u (by rw [hcs]; simpa using hu)) (by simpa using h1) hbytes (by simp; omega) fun v' w' h2 h3 h4 h5 => ?_
  refine h v' w' h2 (((Below.refl B w).alloc hbase _).trans h3) ⟨fun b hb hne => ?_, h4.place.imp id fun ⟨b, e1, e2⟩ => ⟨b, e1, by simp at e2; omega⟩, by have := h4.size; simp at this; omega, h4.os, h4.tape, h4.output⟩ ?_
  · rw [h4.kept b (by simp; omega) hne]; exact Below.heap_alloc _ _ _ hb
  · obtain ⟨_, ⟨h6, _⟩ | ⟨g, cap, cur, h6, _⟩⟩ := h2
    · have := h5.1 h6; simp at this
    · exact ⟨g, cap, by rw [h6]; simp⟩
theorem OwnR.shape (h : OwnR w B e sz enc v xs) : ∃ a? n c, v = .slice a? n c := by
  obtain ⟨a, c, e⟩ := h.len; exact ⟨a, _, c, e⟩

end own

end Go.Sx

/-
  A range over a function whose iterator hands on a known list; regions that draw their order in a round.
-/
namespace Go.Sx
open Go.RowKit

variable {P : Program}

theorem wide_fn (f : FuncId) : Fence.wide.fn f = True := rfl
theorem wide_depth : (Fence.wide.depth = none) = True := by simp [Fence.wide]

theorem run_isPut {w : World} {l : Nat} {o o' : Obj} (h : w.heap[l]? = some o') (hc : o'.isCells = false) (hc' : o.isCells = false) (p : Addr) : (w.putObj l o).cell? p = w.cell? p := by
  unfold World.cell?
  by_cases e : p.block = l
  · subst e
    rw [World.putObj_heap_same (Array.getElem?_eq_some_iff.1 h).1, h]
    cases o <;> cases o' <;> simp_all [Obj.isCells]
  · rw [World.putObj_heap_other e]

/-- The same but for the record at block l, which holds no cells. -/
def Same (l : Nat) (W W' : World) : Prop := ∃ o o', W.heap[l]? = some o' ∧ o'.isCells = false ∧ o.isCells = false ∧ W' = W.putObj l o

section same
variable {l : Nat} {W W' : World}
theorem Same.cell (h : Same l W W') (p : Addr) : W'.cell? p = W.cell? p := by
  obtain ⟨_, _, h1, h2, h3, rfl⟩ := h; exact run_isPut h1 h2 h3 p
theorem Same.frozen (h : Same l W W') (p : Addr) : W'.frozen? p = W.frozen? p := by
  obtain ⟨o, o', h1, h2, h3, rfl⟩ := h
  unfold World.frozen?
  by_cases e : p.block = l
  · subst e
    rw [World.putObj_heap_same (Array.getElem?_eq_some_iff.1 h1).1, h1]
    cases o <;> cases o' <;> simp_all [Obj.isCells]
  · rw [World.putObj_heap_other e]
theorem Same.size (h : Same l W W') : W'.heap.size = W.heap.size := by
  obtain ⟨o, o', h1, h2, h3, rfl⟩ := h; simp
theorem Same.below (h : Same l W W') {B : Nat} (hB : B ≤ l) : Below B W W' := by
  obtain ⟨o, o', h1, h2, h3, rfl⟩ := h
  exact ⟨rfl, rfl, rfl, by simp, fun k hk => World.putObj_heap_other (by omega)⟩
theorem Same.cells (h : Same l W W') {b : Nat} {cs : Array Value} {e : TypeId} {z : Nat × Nat} (hb : W.heap[b]? = some (.cells cs e z)) : W'.heap[b]? = some (.cells cs e z) := by
  obtain ⟨o, o', h1, h2, h3, rfl⟩ := h
  rw [World.putObj_heap_other (by rintro rfl; rw [hb] at h1; cases h1; simp [Obj.isCells] at h2)]
  exact hb
theorem Same.sl (h : Same l W W') {α : Type} {sz : Nat} {enc : α → List Value} {v : Value} {xs : List α} (s : Sl W sz enc v xs) : Sl W' sz enc v xs := by
  obtain ⟨a?, cap, rfl, h1, h2, h3, h4⟩ := s
  exact ⟨a?, cap, rfl, h1, h2, h3, fun i hi => let ⟨a, ha, hc⟩ := h4 i hi; ⟨a, ha, fun j hj => (h.cell _).trans (hc j hj)⟩⟩
theorem Same.own (h : Same l W W') {α : Type} {B : Nat} {e : TypeId} {sz : Nat} {enc : α → List Value} {v : Value} {xs : List α} (s : OwnR W B e sz enc v xs) : OwnR W' B e sz enc v xs := by
  obtain ⟨h1, h2⟩ := s
  refine ⟨h1, h2.imp id fun ⟨g, cap, cur, a, b, c, d⟩ => ⟨g, cap, cur, a, b, h.cells c, d⟩⟩
theorem Same.boxed (h : Same l W W') {B : Nat} {t : TypeId} {v : Value} (s : Boxed W B t v) : Boxed W' B t v := h.cells s
end same

/-- The contract of an iterator value that hands on the elements of xs, one by one; 'Need': what it reads. -/
def IterC {α : Type} (P : Program) (gf : Nat) (lb : Array Value) (encs : α → Array Value) (xs : List α) (Need : World → Prop) : Prop :=
  ∀ (l : Nat) (J : Nat → World → Prop) (Jx : World → Prop) (W : World),
    (∀ k W W', J k W → Ext W W' → J k W') → (∀ W W', Jx W → Ext W W' → Jx W') → (∀ k W, J k W → Need W) →
    (∀ k W1 (hk : k < xs.length), J k W1 → YieldAt Fence.wide 0 P l (encs xs[k]) W1 fun e W' =>
      (e = .returned (.bool true) ∧ J (k + 1) W') ∨ (e = .returned (.bool false) ∧ Jx W')) →
    J 0 W → CallsIn Fence.wide 0 P gf (#[.func (.yield l) #[] #[]] ++ lb) W fun e W' => (∃ v, e = .returned v) ∧ (J xs.length W' ∨ Jx W')

theorem _root_.Go.KeepsOthers.ext {W W' : World} (h : Ext W W') : KeepsOthers W W' :=
  ⟨h.size, fun k _ hk _ => (h.block k (Array.getElem?_eq_some_iff.1 hk).1).trans hk⟩
theorem _root_.Go.KeepsOthers.appd {W W' : World} {v v' : Value} (h : Appd W W' v v') (hv : ∀ b, v.ownBlock = some b → ∃ cs e z, W.heap[b]? = some (.cells cs e z)) : KeepsOthers W W' :=
  ⟨h.size, fun k o hk ho => by
    refine (h.kept k (Array.getElem?_eq_some_iff.1 hk).1 fun e => ?_).trans hk
    obtain ⟨cs, e', z, hc⟩ := hv k e.symm
    rw [hk] at hc; cases hc; simp [Obj.isCells] at ho⟩
theorem OwnR.isCells {α : Type} {w : World} {B : Nat} {e : TypeId} {sz : Nat} {enc : α → List Value} {v : Value} {xs : List α} (h : OwnR w B e sz enc v xs) : ∀ b, v.ownBlock = some b → ∃ cs e z, w.heap[b]? = some (.cells cs e z) := by
  intro b hb
  obtain ⟨_, ⟨rfl, _⟩ | ⟨g, cap, cur, rfl, _, hg, _⟩⟩ := h
  · cases hb
  · simp [Value.ownBlock] at hb; subst hb; exact ⟨_, _, _, hg⟩

/-- Stable under new blocks, and under a turn of a block at or beyond B that holds no cells. -/
structure Abide (B : Nat) (J : World → Prop) : Prop where
  ext : ∀ W W', J W → Ext W W' → J W'
  put : ∀ W W' l, J W → B ≤ l → Same l W W' → J W'

theorem Abide.and {B : Nat} {J K : World → Prop} (h : Abide B J) (k : Abide B K) : Abide B (fun W => J W ∧ K W) :=
  ⟨fun W W' ⟨a, b⟩ e => ⟨h.ext W W' a e, k.ext W W' b e⟩, fun W W' l ⟨a, b⟩ hl e => ⟨h.put W W' l a hl e, k.put W W' l b hl e⟩⟩
theorem Abide.pure {B : Nat} (p : Prop) : Abide B (fun _ => p) := ⟨fun _ _ a _ => a, fun _ _ _ a _ _ => a⟩
theorem Abide.false {B : Nat} : Abide B (fun _ => False) := .pure _
theorem Abide.exi {B : Nat} {β : Type} {J : β → World → Prop} (h : ∀ x, Abide B (J x)) : Abide B (fun W => ∃ x, J x W) :=
  ⟨fun W W' ⟨x, a⟩ e => ⟨x, (h x).ext W W' a e⟩, fun W W' l ⟨x, a⟩ hl e => ⟨x, (h x).put W W' l a hl e⟩⟩
theorem Abide.own {B B' : Nat} {α : Type} {e : TypeId} {sz : Nat} {enc : α → List Value} {v : Value} {xs : List α} : Abide B (fun W => OwnR W B' e sz enc v xs) :=
  ⟨fun _ _ h k => h.ext k, fun _ _ _ h _ k => k.own h⟩
theorem Abide.sl {B : Nat} {α : Type} {sz : Nat} {enc : α → List Value} {v : Value} {xs : List α} : Abide B (fun W => Sl W sz enc v xs) :=
  ⟨fun _ _ h k => h.ext k, fun _ _ _ h _ k => k.sl h⟩
theorem Abide.below {B B' : Nat} {w : World} (h1 : B' ≤ w.heap.size) (h2 : B' ≤ B) : Abide B (fun W => Below B' w W) :=
  ⟨fun _ _ h k => h.trans (k.below (Nat.le_trans h1 h.size)), fun _ _ _ h hl k => h.trans (k.below (Nat.le_trans h2 hl))⟩
theorem Abide.extw {B : Nat} {w : World} (h2 : w.heap.size ≤ B) : Abide B (fun W => Ext w W) := Abide.below (Nat.le_refl _) h2
theorem Abide.cell {B : Nat} {p : Addr} {v : Value} : Abide B (fun W => W.cell? p = some v) :=
  ⟨fun _ _ h k => k.cell h, fun _ _ _ h _ k => (k.cell p).trans h⟩
theorem Abide.boxed {B b : Nat} {t : TypeId} {v : Value} : Abide B (fun W => Boxed W b t v) :=
  ⟨fun _ _ h k => (k.block b h.lt).trans h, fun _ _ _ h _ k => k.boxed h⟩

/-- At the return of a function that held one such loop. -/
theorem bodyPostM_ret {fn : Func} {R : Ending → World → Prop} {a : Act} {W : World} {D : Nat} {v : Value} (hd : a.defers = [{ target := .collected D, args := #[] }]) (hD : W.heap[D]? = some (.deferred (some [])))
    (hr : ∀ W', Same D W W' → (results fn a.tmps).run P W' = .ok v W') (hR : ∀ W', Same D W W' → R (.returned v) W') : bodyPostM Fence.wide 0 P fn R .ret a W := by
  show LeavesInM Fence.wide 0 P fn a.tmps R a.defers .returning W
  rw [hd]
  have hs : Same D W (W.putObj D (.deferred none)) := ⟨_, _, hD, rfl, rfl, rfl⟩
  refine ⟨by simp, .inl ⟨D, _, rfl, run_takeDeferred hD, ?_⟩⟩
  exact ⟨_, hr _ hs, hR _ hs⟩

theorem OwnR.setCell {α : Type} {w : World} {B : Nat} {e : TypeId} {sz : Nat} {enc : α → List Value} {v : Value} {xs : List α} (h : OwnR w B e sz enc v xs) {p : Addr} (hp : v.ownBlock ≠ some p.block) (u : Value) : OwnR (w.setCell p u) B e sz enc v xs := by
  obtain ⟨h1, h2⟩ := h
  refine ⟨h1, h2.imp id fun ⟨g, cap, cur, a, b, c, d⟩ => ⟨g, cap, cur, a, b, ?_, d⟩⟩
  rw [Below.heap_setCell _ _ _ _ (by rintro rfl; exact hp (by rw [a]; rfl))]; exact c

theorem _root_.Go.Boxed.appd {α : Type} {W w' : World} {b B : Nat} {t e : TypeId} {sz : Nat} {enc : α → List Value} {u v v' : Value} {xs : List α} (hb : Boxed W b t u) (hte : t ≠ e) (hown : OwnR W B e sz enc v xs) (ha : Appd W w' v v') : Boxed w' b t u :=
  (ha.kept b hb.lt (Boxed.not_row hb hte hown)).trans hb
theorem _root_.Go.Boxed.ext {W W' : World} {b : Nat} {t : TypeId} {u : Value} (hb : Boxed W b t u) (h : Ext W W') : Boxed W' b t u := (h.block b hb.lt).trans hb

/-- 'x = append(x, ..)' for a variable x in a box: behind the append, and behind the store. -/
theorem box_app {α : Type} {W w' : World} {Bx B : Nat} {t e : TypeId} {sz : Nat} {enc : α → List Value} {v v' : Value} {xs xs' : List α} (hb : Boxed W Bx t v) (hte : t ≠ e) (hown : OwnR W B e sz enc v xs)
    (hown' : OwnR w' B e sz enc v' xs') (ha : Appd W w' v v') :
    Boxed w' Bx t v ∧ Boxed (w'.setCell ⟨Bx, 0, none⟩ v') Bx t v' ∧ OwnR (w'.setCell ⟨Bx, 0, none⟩ v') B e sz enc v' xs' ∧ KeepsOthers W (w'.setCell ⟨Bx, 0, none⟩ v') := by
  have hne : v.ownBlock ≠ some Bx := fun h => Boxed.not_row hb hte hown h.symm
  have hb1 : Boxed w' Bx t v := (ha.kept Bx hb.lt (fun h => hne h.symm)).trans hb
  exact ⟨hb1, hb1.set v', hown'.setCell (ha.apart hb.lt hne) _, (KeepsOthers.appd ha hown.isCells).trans (KeepsOthers.setCell _ _ _)⟩

/-- What a slice of one element, made in a region that draws, is good for. -/
def Sl1 (B : Nat) (e : TypeId) (cs : Array Value) (v : Value) (w : World) : Prop := ∃ b, v = .slice (some ⟨b, 0, none⟩) 1 1 ∧ B ≤ b ∧ w.heap[b]? = some (.cells cs e (0, 0))
theorem Sl1.stable (B : Nat) (e : TypeId) (cs : Array Value) (v : Value) : Stable Ext (Sl1 B e cs v) := by
  rintro w w' ⟨b, h1, h2, h3⟩ h
  exact ⟨b, h1, h2, (h.block b (Array.getElem?_eq_some_iff.1 h3).1).trans h3⟩
theorem Sl1.new (w : World) (e : TypeId) (cs : Array Value) {B : Nat} (hB : B ≤ w.heap.size) : Sl1 B e cs (.slice (some ⟨w.heap.size, 0, none⟩) 1 1) (w.alloc (.cells cs e)) :=
  ⟨_, rfl, hB, World.alloc_heap_new w _⟩
theorem row_cells {w : World} {b : Nat} {cs : Array Value} {e : TypeId} (h : w.heap[b]? = some (.cells cs e (0, 0))) (j : Nat) (u : Value) (hu : cs.toList[j]? = some u) : w.cell? ((⟨b, 0, none⟩ : Addr).add j) = some u := by
  rw [Addr.add_lit]
  unfold World.cell?
  simp only [Nat.zero_add, h]
  simpa using hu

/-- A slice that lies below block B. -/
def SlB {α : Type} (w : World) (B : Nat) (sz : Nat) (enc : α → List Value) (u : Value) (xs : List α) : Prop :=
  Sl w sz enc u xs ∧ (xs ≠ [] → ∀ a n c, u = .slice (some a) n c → a.block < B)

theorem SlB.below {α : Type} {w w' : World} {B B' : Nat} {u : Value} {sz : Nat} {enc : α → List Value} {xs : List α} (s : SlB w B sz enc u xs) (h : Below B' w w') (hB : B ≤ B') : SlB w' B sz enc u xs := by
  obtain ⟨s, hne⟩ := s
  refine ⟨?_, hne⟩
  obtain ⟨a?, cap, rfl, h1, h2, h3, h4⟩ := s
  refine ⟨a?, cap, rfl, h1, h2, h3, fun i hi => ?_⟩
  obtain ⟨a, rfl, hc⟩ := h4 i hi
  have hlt := hne (by rintro rfl; simp at hi) a _ _ rfl
  exact ⟨a, rfl, fun j hj => (h.cell (p := a.add (i * sz + j)) (by rw [add_block]; omega)).trans (hc j hj)⟩

theorem Sl.slB {α : Type} {w : World} {u : Value} {sz : Nat} {enc : α → List Value} {xs : List α} (s : Sl w sz enc u xs) (hsz : 0 < sz) : SlB w w.heap.size sz enc u xs := by
  refine ⟨s, fun hx a n c e => ?_⟩
  subst e
  have hpos : 0 < xs.length := by cases xs with | nil => exact absurd rfl hx | cons _ _ => simp
  obtain ⟨b, o, e, hc⟩ := s.at hsz 0 hpos
  cases e
  have := lt_of_cell (hc 0 hsz)
  exact this
theorem SlB.mono {α : Type} {w : World} {B B' : Nat} {u : Value} {sz : Nat} {enc : α → List Value} {xs : List α} (s : SlB w B sz enc u xs) (h : B ≤ B') : SlB w B' sz enc u xs :=
  ⟨s.1, fun hx a n c e => Nat.lt_of_lt_of_le (s.2 hx a n c e) h⟩
theorem SlB.nil {α : Type} {w : World} {B : Nat} {sz : Nat} {enc : α → List Value} : SlB w B sz enc (.slice none 0 0) ([] : List α) := ⟨Sl.nil w sz enc, fun h => absurd rfl h⟩
theorem Abide.slB {α : Type} {B' : Nat} {B : Nat} {sz : Nat} {enc : α → List Value} {u : Value} {xs : List α} : Abide B' (fun W => SlB W B sz enc u xs) :=
  ⟨fun _ _ h k => ⟨h.1.ext k, h.2⟩, fun _ _ _ h _ k => ⟨k.sl h.1, h.2⟩⟩

/-! ### A region that draws its order, in a round -/

def noDefer (ops : Array Oper) : Bool := ops.all fun o => match o.op with | .defer _ => false | _ => true

theorem wpOpIn_of {l : Nat} {ops : Array Oper} {Q : Exit → Act → World → Prop} (hq : ¬ LetsOut Q) (hdf : noDefer ops = true) {i : Nat} {K K' : Act → World → Prop} {a : Act} {w : World}
    (hK : ∀ a w, K a w → K' a w) (h : wpOp P ops Q i K a w) : wpOpIn (Fence.wide.inRound l) 0 P ops Q i K' a w := by
  unfold wpOp at h
  unfold wpOpIn
  split
  · rename_i ho; simp only [ho] at h; exact hK _ _ h
  · rename_i o ho
    simp only [ho] at h
    have hnd : ∀ c, o.op ≠ .defer c := fun c e => by
      have := Array.all_eq_true_iff_forall_mem.1 hdf o (Array.mem_of_getElem? ho)
      simp [e] at this
    split
    · rename_i hw
      rw [if_pos hw] at h
      rcases h with h | ⟨_, h⟩
      case inr => exact absurd h hq
      refine ⟨fun _ _ => trivial, ?_⟩
      rw [Oper.semAt_eq _ _ _ hnd]
      unfold Oper.wp at h
      generalize (execOp a.eval o).run P w = r at *
      cases r with
      | ok x w' =>
        cases x <;> simp only [Oper.upon] at h <;> simp only [Oper.uponIn]
        · exact hK _ _ h
        · exact hK _ _ h
        · refine ⟨fun h => absurd h (by simp [Fence.wide]), CallsIn.inRound l (callsIn_wide.2 (h.mono fun e w'' he => ?_))⟩
          cases e with
          | returned v => exact hK _ _ he
          | panicked c => exact he
          | outgrown => exact he
        · exact hK _ _ h
        · refine ⟨fun h => absurd h (by simp [Fence.wide]), fun c cs _ => ?_⟩
          obtain ⟨v, w'', r, s⟩ := h c cs
          exact ⟨v, w'', hK _ _ r, stepsIn_wide.2 s⟩
      | halt x w' => cases x <;> simp only [Oper.upon] at h <;> simp only [Oper.uponIn] <;> exact h
    · rename_i hw
      rw [if_neg hw] at h
      exact ⟨fun _ _ => trivial, hK _ _ h⟩

theorem wpAnyIn_of {l : Nat} {md : Region.Mode} {ops : Array Oper} {Q : Exit → Act → World → Prop} (hq : ¬ LetsOut Q) (hdf : noDefer ops = true) : ∀ (fuel : Nat) (listed : Array Bool) (a : Act) (w : World),
    wpAny P md ops Q fuel listed a w → wpAnyIn (Fence.wide.inRound l) 0 P md ops Q fuel listed a w
  | 0, _, _, _, h => h
  | fuel + 1, _, _, _, h => ⟨h.1, fun i hi => wpOpIn_of hq hdf (fun a w h => wpAnyIn_of hq hdf fuel _ a w h) (h.2 i hi)⟩

end Go.Sx

/-
  A range over a function whose iterator holds a range over a function itself: its rounds leave alone what lies at or beyond some block.
-/
namespace Go.Sx
open Go.RowKit

variable {P : Program}

/-- All that lies at or beyond B stays as it is. -/
structure KeepsUp (B : Nat) (W W' : World) : Prop where
  size : W.heap.size ≤ W'.heap.size
  same : ∀ k, B ≤ k → k < W.heap.size → W'.heap[k]? = W.heap[k]?
theorem KeepsUp.refl (B : Nat) (W : World) : KeepsUp B W W := ⟨Nat.le_refl _, fun _ _ _ => rfl⟩
theorem KeepsUp.trans {B : Nat} {a b c : World} (h : KeepsUp B a b) (k : KeepsUp B b c) : KeepsUp B a c :=
  ⟨Nat.le_trans h.size k.size, fun i h1 h2 => (k.same i h1 (Nat.lt_of_lt_of_le h2 h.size)).trans (h.same i h1 h2)⟩
theorem KeepsUp.mono {B C : Nat} {a b : World} (h : KeepsUp B a b) (hb : B ≤ C) : KeepsUp C a b := ⟨h.size, fun i h1 h2 => h.same i (Nat.le_trans hb h1) h2⟩
theorem KeepsUp.ext {B : Nat} {a b : World} (h : Ext a b) : KeepsUp B a b := ⟨h.size, fun i _ h2 => h.block i h2⟩
theorem KeepsUp.setCell {B : Nat} (W : World) {p : Addr} (hp : p.block < B) (v : Value) : KeepsUp B W (W.setCell p v) :=
  ⟨by simp, fun i h1 h2 => Below.heap_setCell _ _ _ _ (by omega)⟩
theorem KeepsUp.putObj {B : Nat} (W : World) {l : Nat} (hp : l < B) (o : Obj) : KeepsUp B W (W.putObj l o) :=
  ⟨by simp, fun i h1 h2 => World.putObj_heap_other (by omega)⟩
theorem KeepsUp.at {B : Nat} {a b : World} (h : KeepsUp B a b) {k : Nat} {o : Obj} (h1 : B ≤ k) (h2 : a.heap[k]? = some o) : b.heap[k]? = some o :=
  (h.same k h1 (Array.getElem?_eq_some_iff.1 h2).1).trans h2

/-- What looks below B alone. -/
def Low (B : Nat) (J : World → Prop) : Prop := ∀ W W', J W → Below B W W' → J W'
theorem Low.mono {B C : Nat} {J : World → Prop} (h : Low B J) (hb : B ≤ C) : Low C J := fun W W' j k => h W W' j (Below.mono k hb)
theorem Low.and {B : Nat} {J K : World → Prop} (h : Low B J) (k : Low B K) : Low B (fun W => J W ∧ K W) := fun W W' ⟨a, b⟩ e => ⟨h W W' a e, k W W' b e⟩
theorem Low.pure {B : Nat} (p : Prop) : Low B (fun _ => p) := fun _ _ a _ => a
theorem Low.exi {B : Nat} {β : Type} {J : β → World → Prop} (h : ∀ x, Low B (J x)) : Low B (fun W => ∃ x, J x W) := fun W W' ⟨x, a⟩ e => ⟨x, h x W W' a e⟩
theorem Low.ext {B : Nat} {w : World} (h : w.heap.size ≤ B) : Low B (fun W => Ext w W) := fun _ _ a e => Below.trans a (Below.mono e h)
theorem Low.below {B C : Nat} {w : World} (h : C ≤ B) : Low B (fun W => Below C w W) := fun _ _ a e => Below.trans a (Below.mono e h)
theorem Low.boxed {B b : Nat} {t : TypeId} {v : Value} (h : b < B) : Low B (fun W => Boxed W b t v) := fun _ _ a e => (e.block b h).trans a
theorem Low.block {B b : Nat} {o : Obj} (h : b < B) : Low B (fun W => W.heap[b]? = some o) := fun _ _ a e => (e.block b h).trans a
theorem Low.size {B n : Nat} : Low B (fun W => n ≤ W.heap.size) := fun _ _ a e => Nat.le_trans a e.size

/-- The contract of an iterator value that may turn what lies beyond the world it was called in, and wants that kept. -/
def IterN {α : Type} (P : Program) (gf : Nat) (lb : Array Value) (encs : α → Array Value) (xs : List α) (Need : World → Prop) : Prop :=
  ∀ (l : Nat) (J : Nat → World → Prop) (Jx : World → Prop) (W : World),
    (∀ k, Low W.heap.size (J k)) → Low W.heap.size Jx → (∀ k W', J k W' → Need W') → l < W.heap.size →
    (∀ k W1 (hk : k < xs.length), J k W1 → W.heap.size ≤ W1.heap.size → YieldAt Fence.wide 0 P l (encs xs[k]) W1 fun e W' =>
      KeepsUp W.heap.size W1 W' ∧ ((e = .returned (.bool true) ∧ J (k + 1) W') ∨ (e = .returned (.bool false) ∧ Jx W'))) →
    J 0 W → CallsIn Fence.wide 0 P gf (#[.func (.yield l) #[] #[]] ++ lb) W fun e W' => (∃ v, e = .returned v) ∧ (J xs.length W' ∨ Jx W')

/-- An iterator that only makes new things is such a one. -/
theorem IterC.n {α : Type} {gf : Nat} {lb : Array Value} {encs : α → Array Value} {xs : List α} {Need : World → Prop} (h : IterC P gf lb encs xs Need) : IterN P gf lb encs xs Need := by
  intro l J Jx W hJ hJx hN _ hy h0
  refine (h l (fun k W' => J k W' ∧ W.heap.size ≤ W'.heap.size) (fun W' => Jx W' ∧ W.heap.size ≤ W'.heap.size) W
    (fun k A B ⟨a, s⟩ e => ⟨hJ k A B a (e.below s), Nat.le_trans s e.size⟩) (fun A B ⟨a, s⟩ e => ⟨hJx A B a (e.below s), Nat.le_trans s e.size⟩) (fun k A a => hN k A a.1) ?_ ⟨h0, Nat.le_refl _⟩).mono ?_
  · rintro k W1 hk ⟨hj, hs⟩
    obtain ⟨fn, tmps, assign, body, e1, e2⟩ := hy k W1 hk hj hs
    refine ⟨fn, tmps, assign, body, e1, e2.mono ?_⟩
    rintro e W' ⟨hk', ⟨rfl, hj'⟩ | ⟨rfl, hj'⟩⟩
    · exact .inl ⟨rfl, hj', Nat.le_trans hs hk'.size⟩
    · exact .inr ⟨rfl, hj', Nat.le_trans hs hk'.size⟩
  · rintro e W' ⟨hv, ⟨a, -⟩ | ⟨a, -⟩⟩
    · exact ⟨hv, .inl a⟩
    · exact ⟨hv, .inr a⟩

/-- How the body of a round may be left. -/
def postN (B : Nat) (I : Nat → World → Prop) (Ix : Code → World → Prop) (k : Nat) (W : World) : Exit → Act → World → Prop
  | .normal, _, W' => KeepsUp B W W' ∧ I (k + 1) W'
  | .ret, _, W' => KeepsUp B W W' ∧ Ix .ret W'
  | .exit id, _, W' => KeepsUp B W W' ∧ Ix (.exit id) W'
  | .goto t, _, W' => KeepsUp B W W' ∧ Ix (.goto t) W'
  | .panic _, _, _ => False
  | .outgrown, _, _ => False

theorem wpIn_rangeN {α : Type} {g : Operand} {ps : Array Tmp} {assign body : Code} {Q : Exit → Act → World → Prop} {a : Act} {w : World} {gf : Nat} {lb : Array Value} {encs : α → Array Value} {xs : List α} {Need : World → Prop}
    (hg : a.eval g = .func (.func gf) #[] lb) (eg : ∀ args w, (callFunc gf args).run P w = .ok (.enter gf args) w) (hit : IterN P gf lb encs xs Need) (hps : ∀ x, (encs x).size = ps.size)
    (I : Nat → World → Prop) (Ix : Code → World → Prop) (hI : ∀ k, Low w.heap.size (I k)) (hIx : ∀ c, Low w.heap.size (Ix c)) (hN : ∀ k W, I k W → Need W) (h0 : I 0 w)
    (hround : ∀ l k W (hk : k < xs.length), I k W → w.heap.size ≤ l → l < W.heap.size →
      assign.wpIn (Fence.wide.inRound l) 0 P (Exit.then (fun a1 W1 => KeepsUp w.heap.size W W1 ∧ ∀ W2, Same l W1 W2 → body.wpIn (Fence.wide.inRound l) 0 P (postN w.heap.size I Ix k W2) a1 W2) (fun _ _ _ => False))
        { tmps := (ps.zip (encs xs[k])).foldl (fun t (p, v) => t.setIfInBounds p v) a.tmps, defers := [] } W)
    (hdone : ∀ D W, w.heap.size ≤ D → I xs.length W → W.heap[D]? = some (.deferred (some [])) → Q .normal { a with defers := { target := .collected D, args := #[] } :: a.defers } W)
    (hstop : ∀ D c W, w.heap.size ≤ D → Ix c W → W.heap[D]? = some (.deferred (some [])) → c.wpIn Fence.wide 0 P Q { a with defers := { target := .collected D, args := #[] } :: a.defers } W) :
    (Code.rangeFunc g ps assign body).wpIn Fence.wide 0 P Q a w := by
  refine wpIn_rangeFunc ?_
  intro fn hfn
  obtain ⟨rec, hrec⟩ : ∃ rec : LoopState → Option Code → Loop, rec = fun st pe => { state := st, pending := pe, fn, tmps := a.tmps, params := ps, assign, body, defers := w.heap.size } := ⟨_, rfl⟩
  obtain ⟨W1, hW1⟩ : ∃ W1, (w.alloc (.deferred (some []))).alloc (.loop (rec .ready none)) = W1 := ⟨_, rfl⟩
  have hL1 : W1.heap[w.heap.size + 1]? = some (.loop (rec .ready none)) := by
    rw [← hW1]; have := World.alloc_heap_new (w.alloc (.deferred (some []))) (.loop (rec .ready none)); rwa [World.size_alloc] at this
  have hK1 : W1.heap[w.heap.size]? = some (.deferred (some [])) := by
    rw [← hW1]; exact (Below.heap_alloc _ _ _ (by simp)).trans (World.alloc_heap_new w _)
  have hz1 : W1.heap.size = w.heap.size + 2 := by rw [← hW1]; simp
  have hx1 : Ext w W1 := by rw [← hW1]; exact ((Ext.refl w).alloc _).alloc _
  have hI1 : I 0 W1 := hI 0 _ _ h0 hx1
  have putB : ∀ {A : World} (r' : Obj), Below w.heap.size A (A.putObj (w.heap.size + 1) r') := fun {A} r' =>
    ⟨rfl, rfl, rfl, by simp, fun k hk => World.putObj_heap_other (by omega)⟩
  have samePut : ∀ {A : World} {r : Loop} (r' : Loop), A.heap[w.heap.size + 1]? = some (.loop r) → Same (w.heap.size + 1) A (A.putObj (w.heap.size + 1) (.loop r')) :=
    fun r' h => ⟨_, _, h, rfl, rfl, rfl⟩
  have hle : w.heap.size ≤ W1.heap.size := by omega
  refine ⟨w.heap.size + 1, [{ target := .collected w.heap.size, args := #[] }], W1, { target := .fn (.func gf) lb, args := #[.func (.yield (w.heap.size + 1)) #[] #[]] }, W1, gf,
    #[.func (.yield (w.heap.size + 1)) #[] #[]] ++ lb, W1, ?_, ?_, fun _ _ => trivial, ?_, fun h => absurd h (by simp [Fence.wide]), ?_⟩
  · rw [← hW1, hrec]; exact run_enterLoop_outer _ _ _ _ _
  · simp only [resolve, hg]
    simp [go_sem]
  · simp [invoke, go_sem, eg]
  · refine (hit (w.heap.size + 1)
      (fun k W => I k W ∧ W.heap[w.heap.size + 1]? = some (.loop (rec .ready none)) ∧ W.heap[w.heap.size]? = some (.deferred (some [])))
      (fun W => ∃ c, Ix c W ∧ W.heap[w.heap.size + 1]? = some (.loop (rec .done (some c))) ∧ W.heap[w.heap.size]? = some (.deferred (some [])))
      W1
      (fun k => ((hI k).mono hle).and ((Low.block (by omega)).and (Low.block (by omega))))
      (Low.exi fun c => ((hIx c).mono hle).and ((Low.block (by omega)).and (Low.block (by omega))))
      (fun k W h => hN k W h.1) (by omega)
      ?_ ⟨hI1, hL1, hK1⟩).mono ?_
    · rintro k W hk ⟨hi, hl, hkd⟩ hzW
      have hlt : w.heap.size + 1 < W.heap.size := (Array.getElem?_eq_some_iff.1 hl).1
      have hy := run_yield (P := P) (args := encs xs[k]) hl (by rw [hrec]; exact hps _)
      rw [hrec] at hy
      refine ⟨fn, _, assign, body, hy, roundIn_of_wpIn hfn (wpIn_mono (hround _ k W hk hi (by omega) hlt) ?_)⟩
      rintro e a1 W2 hp
      cases e with
      | normal =>
        obtain ⟨hk1, hb⟩ := hp
        have hl1 := hk1.at (by omega) hl
        have hd1 := hk1.at (Nat.le_refl _) hkd
        have hlt1 := (Array.getElem?_eq_some_iff.1 hl1).1
        refine ⟨_, run_beginRound hl1 (by rw [hrec]), ?_⟩
        have hl2 : (W2.putObj (w.heap.size + 1) (.loop { rec .ready none with state := .busy })).heap[w.heap.size + 1]? = some (.loop { rec .ready none with state := .busy }) := World.putObj_heap_same hlt1
        have hd2 : (W2.putObj (w.heap.size + 1) (.loop { rec .ready none with state := .busy })).heap[w.heap.size]? = some (.deferred (some [])) := (World.putObj_heap_other (by omega)).trans hd1
        have hk2 : KeepsUp W1.heap.size W (W2.putObj (w.heap.size + 1) (.loop { rec .ready none with state := .busy })) := (hk1.mono hle).trans (.putObj _ (by omega) _)
        refine wpIn_mono (hb _ (samePut _ hl1)) ?_
        have fin : ∀ (jump : Option Code) (W3 : World), KeepsUp w.heap.size (W2.putObj (w.heap.size + 1) (.loop { rec .ready none with state := .busy })) W3 →
            (Instr.endRound (w.heap.size + 1) jump).run P W3 = .ok (.bool jump.isNone) (W3.putObj (w.heap.size + 1) (.loop (rec (if jump.isNone then .ready else .done) jump))) ∧
            KeepsUp W1.heap.size W (W3.putObj (w.heap.size + 1) (.loop (rec (if jump.isNone then .ready else .done) jump))) ∧
            (W3.putObj (w.heap.size + 1) (.loop (rec (if jump.isNone then .ready else .done) jump))).heap[w.heap.size + 1]? = some (.loop (rec (if jump.isNone then .ready else .done) jump)) ∧
            (W3.putObj (w.heap.size + 1) (.loop (rec (if jump.isNone then .ready else .done) jump))).heap[w.heap.size]? = some (.deferred (some [])) := fun jump W3 hk3 => by
          have hl3 := hk3.at (by omega) hl2
          have := run_endRound (P := P) jump hl3
          rw [hrec] at this ⊢
          exact ⟨this, (hk2.trans (hk3.mono hle)).trans (.putObj _ (by omega) _), World.putObj_heap_same (Array.getElem?_eq_some_iff.1 hl3).1, (World.putObj_heap_other (by omega)).trans (hk3.at (Nat.le_refl _) hd2)⟩
        rintro e a3 W3 hp
        cases e with
        | normal =>
          obtain ⟨hk3, hi3⟩ := hp
          obtain ⟨hr, hku, hl4, hk4⟩ := fin none W3 hk3
          exact ⟨_, _, hr, hku, .inl ⟨rfl, hI _ _ _ hi3 (putB _), hl4, hk4⟩⟩
        | ret =>
          obtain ⟨hk3, hi3⟩ := hp
          obtain ⟨hr, hku, hl4, hk4⟩ := fin (some .ret) W3 hk3
          exact ⟨_, _, hr, hku, .inr ⟨rfl, .ret, hIx _ _ _ hi3 (putB _), hl4, hk4⟩⟩
        | exit id =>
          obtain ⟨hk3, hi3⟩ := hp
          obtain ⟨hr, hku, hl4, hk4⟩ := fin (some (.exit id)) W3 hk3
          exact ⟨_, _, hr, hku, .inr ⟨rfl, .exit id, hIx _ _ _ hi3 (putB _), hl4, hk4⟩⟩
        | goto t =>
          obtain ⟨hk3, hi3⟩ := hp
          obtain ⟨hr, hku, hl4, hk4⟩ := fin (some (.goto t)) W3 hk3
          exact ⟨_, _, hr, hku, .inr ⟨rfl, .goto t, hIx _ _ _ hi3 (putB _), hl4, hk4⟩⟩
        | panic ch => exact hp.elim
        | outgrown => exact hp.elim
      | ret => exact hp.elim
      | exit id => exact hp.elim
      | goto t => exact hp.elim
      | panic ch => exact hp.elim
      | outgrown => exact hp.elim
    · rintro e W2 ⟨⟨v, rfl⟩, (⟨hi, hl, hk⟩ | ⟨c, hi, hl, hk⟩)⟩
      · exact ⟨none, _, by have := run_endLoop (P := P) hl (by rw [hrec]; simp); rw [hrec] at this; exact this, hdone _ _ (Nat.le_refl _) (hI _ _ _ hi (putB _)) ((World.putObj_heap_other (by omega)).trans hk)⟩
      · exact ⟨some c, _, by have := run_endLoop (P := P) hl (by rw [hrec]; simp); rw [hrec] at this; exact this, hstop _ c _ (Nat.le_refl _) (hIx c _ _ hi (putB _)) ((World.putObj_heap_other (by omega)).trans hk)⟩
end Go.Sx

/-
  A range over a function whose rounds may also write a map that was made ahead of it; the second law of drawn regions, in a round.
-/
namespace Go.Sx
open Go.RowKit

variable {P : Program}

/-- How the body of a round may be left. -/
def postF (B : Nat) (I : Nat → World → Prop) (Ix : Code → World → Prop) (k : Nat) (W : World) : Exit → Act → World → Prop
  | .normal, _, W' => KeepsFrom B W W' ∧ I (k + 1) W'
  | .ret, _, W' => KeepsFrom B W W' ∧ Ix .ret W'
  | .exit id, _, W' => KeepsFrom B W W' ∧ Ix (.exit id) W'
  | .goto t, _, W' => KeepsFrom B W W' ∧ Ix (.goto t) W'
  | .panic _, _, _ => False
  | .outgrown, _, _ => False

theorem wpIn_region_ordX {lp : Nat} {ops : Array Oper} {Q : Exit → Act → World → Prop} {id : Nat} {a : Act} {w : World} (l : List (Nat × Kd)) (pre : Nat) (R1 R2 : World → World → Prop) (Cd C : World → Prop) (hm : P.follows .mixedOrders = true) (ix : List (Nat × Bool)) (hB : (noDefer ops && okB .any ops pre ix (befB ops)) = true) (hq : ¬ LetsOut Q)
    (hix : l.map (fun x => (x.1, !x.2.alone)) = ix) (hnd : (ix.map (·.1)).Nodup) (sub : ∀ w w', R1 w w' → R2 w w') (hcd : Stable R2 Cd) (hs : Stable R1 C)
    (h1 : Cd { w with drawn := w.drawn + 1 }) (h2 : C { w with drawn := w.drawn + 1 }) (h : ordX P ops R1 R2 Cd Q pre l a C (fun _ => True)) : (Code.region id ops true).wpIn (Fence.wide.inRound lp) 0 P Q a w := by
  subst hix
  simp only [okB, Bool.and_eq_true, decide_eq_true_eq] at hB
  obtain ⟨hdf, ⟨⟨⟨⟨b1, b2⟩, b3⟩, b4⟩, b5⟩, b6⟩ := hB
  have hkd := ordX_stab _ _ _ _ h
  refine wpIn_region_any hm (wpAnyIn_of hq hdf _ _ _ _ (wpAny_of_wpX (R1 := R1) (R2 := R2) (Cd := Cd) (kd := kdOf l) (pre := pre) ⟨sub, hcd, fun i => (kdOf_all (p := fun k => (k.alone = true → ∀ v, Stable R1 (k.T v)) ∧ (k.alone = false → ∀ v, Stable R2 (k.T v))) ⟨(fun h => by cases h), fun _ _ _ _ _ _ => trivial⟩ hkd i).1,
    fun i => (kdOf_all (p := fun k => (k.alone = true → ∀ v, Stable R1 (k.T v)) ∧ (k.alone = false → ∀ v, Stable R2 (k.T v))) ⟨(fun h => by cases h), fun _ _ _ _ _ _ => trivial⟩ hkd i).2⟩ _ _ _ C (fun _ => True) _ ?_ hs (fun _ _ _ _ => trivial) h1 h2 trivial))
  refine wpX_of_ord b1 b2 b3 b4 l _ _ a C _ (kdOf_mem (by rw [List.map_map] at hnd; exact hnd)) (by simp) (fun j i hj hi hl _ => ?_) (by rw [List.length_map] at b5; exact b5) b6 h
  simp [hj] at hl
end Go.Sx

/-
  Regions that draw their order, in a function that holds a range over a function (outside of its rounds).
-/
namespace Go.Sx
open Go.RowKit

variable {P : Program}

end Go.Sx

/-
  What a step keeps that may write into one row of the call's own.
-/
set_option linter.unusedVariables false
namespace Go.Sx
open Go.RowKit

/-- Nothing that was there has turned but, maybe, block g. -/
structure Kb (g : Option Nat) (w w' : World) : Prop where
  os : w'.os = w.os
  tape : w'.tape = w.tape
  output : w'.output = w.output
  size : w.heap.size ≤ w'.heap.size
  kept : ∀ b, b < w.heap.size → some b ≠ g → w'.heap[b]? = w.heap[b]?

theorem Kb.refl (g : Option Nat) (w : World) : Kb g w w := ⟨rfl, rfl, rfl, Nat.le_refl _, fun _ _ _ => rfl⟩
theorem Kb.trans {g : Option Nat} {a b c : World} (h : Kb g a b) (k : Kb g b c) : Kb g a c :=
  ⟨k.os.trans h.os, k.tape.trans h.tape, k.output.trans h.output, Nat.le_trans h.size k.size, fun x hx hg => (k.kept x (Nat.lt_of_lt_of_le hx h.size) hg).trans (h.kept x hx hg)⟩
theorem Ext.kb {a b : World} (h : Ext a b) (g : Option Nat) : Kb g a b := ⟨h.os, h.tape, h.output, h.size, fun x hx _ => h.block x hx⟩
theorem Kb.drawn (g : Option Nat) (w : World) (n : Nat) : Kb g w { w with drawn := n } := ⟨rfl, rfl, rfl, Nat.le_refl _, fun _ _ _ => rfl⟩
theorem Appd.kb {w w' : World} {v v' : Value} (h : Appd w w' v v') : Kb v.ownBlock w w' := ⟨h.os, h.tape, h.output, h.size, fun b hb hg => h.kept b hb hg⟩
theorem stable_kb (g : Option Nat) (w0 : World) : Stable (Kb g) (Kb g w0) := fun _ _ h k => h.trans k
theorem Kb.below {g : Option Nat} {w w' : World} (h : Kb g w w') {B : Nat} (hB : B ≤ w.heap.size) (hg : ∀ b, g = some b → B ≤ b) : Below B w w' :=
  ⟨h.os, h.tape, h.output, h.size, fun b hb => h.kept b (by omega) (fun e => by have := hg b e.symm; omega)⟩
theorem Kb.cell {g : Option Nat} {w w' : World} (h : Kb g w w') {p : Addr} {v : Value} (hc : w.cell? p = some v) (hg : some p.block ≠ g) : w'.cell? p = some v := by
  rw [← hc]
  exact World.cell?_of_block (h.kept p.block (lt_of_cell hc) hg)
theorem kb_cells {g : Option Nat} {w0 : World} {p : Addr} {v : Value} (h : w0.cell? p = some v) (hg : some p.block ≠ g) : ∀ w, Kb g w0 w → w.cell? p = some v := fun _ k => k.cell h hg
theorem sub_kb (g : Option Nat) : ∀ w w', Ext w w' → Kb g w w' := fun _ _ h => h.kb g
theorem stable_sl1 (B : Nat) (e : TypeId) (cs : Array Value) (v : Value) : Stable Ext (Sl1 B e cs v) := Sl1.stable B e cs v
theorem stable_and {R : World → World → Prop} {C D : World → Prop} (h : Stable R C) (k : Stable R D) : Stable R (fun w => C w ∧ D w) := fun a b x y => ⟨h a b x.1 y, k a b x.2 y⟩

/-- A store of a whole struct into a variable. -/
theorem wpList_store_row {P : Program} {ops : Array Oper} {rest : List Oper} {o : Oper} {a : Act} {w : World} {Q : Exit → Act → World → Prop} (hgd : o.guard = none) (ty : TypeId) (x y : Operand) (ho : o.op = .store ty x y)
    (g : Nat) (cells : Array Value) (hx : a.eval x = .pointer (some ⟨g, 0, none⟩)) (hy : a.eval y = .agg cells)
    (t : TypeId) (old : Array Value) (hg : w.heap[g]? = some (.cells old t (0, 0))) (hi : (P.info? ty).map (·.size) = some cells.size)
    (hold : old.size = cells.size) (h1 : cells.all (·.oneCell') = true)
    (h : wpList P ops Q rest (a.put o.dst undef) (w.setRow g cells)) : wpList P ops Q (o :: rest) a w :=
  wpList_plain hgd fun K hK => wp_store_row ty x y ho g cells hx hy t old hg hi hold h1 (hK _ _ h)

theorem row_at {w : World} {g : Nat} {cs : Array Value} {t : TypeId} {fr : Nat × Nat} (h : w.heap[g]? = some (.cells cs t fr)) (j : Nat) (u : Value) (hu : cs.toList[j]? = some u) : w.cell? ⟨g, j, none⟩ = some u := by
  unfold World.cell?
  simp only [h]
  simpa using hu
theorem setRow_at {w : World} {g : Nat} {old : Array Value} {t : TypeId} {fr : Nat × Nat} (hg : w.heap[g]? = some (.cells old t fr)) (cs : Array Value) : (w.setRow g cs).heap[g]? = some (.cells cs t fr) := setRow_heap w g old cs t fr hg
theorem setRow_ne {w : World} {g k : Nat} {o : Obj} (h : w.heap[k]? = some o) (hk : k ≠ g) (cs : Array Value) : (w.setRow g cs).heap[k]? = some o := (setRow_other w g k cs hk).trans h
theorem Ext.setRow {a w : World} (h : Ext a w) {g : Nat} (hg : a.heap.size ≤ g) (cs : Array Value) : Ext a (w.setRow g cs) := below_setRow h hg cs
theorem OwnR.setRow {α : Type} {w : World} {B : Nat} {e : TypeId} {sz : Nat} {enc : α → List Value} {v : Value} {xs : List α} (h : OwnR w B e sz enc v xs) {g : Nat} (hg : v.ownBlock ≠ some g) (cs : Array Value) : OwnR (w.setRow g cs) B e sz enc v xs := by
  obtain ⟨h1, h2⟩ := h
  refine ⟨h1, h2.imp id fun ⟨k, cap, cur, a, b, c, d⟩ => ⟨k, cap, cur, a, b, ?_, d⟩⟩
  rw [setRow_other w g k cs (fun e => hg (by rw [a, ← e]; rfl))]
  exact c
theorem OwnR.apart_below {α : Type} {w : World} {B : Nat} {e : TypeId} {sz : Nat} {enc : α → List Value} {v : Value} {xs : List α} (h : OwnR w B e sz enc v xs) {g : Nat} (hg : g < B) : v.ownBlock ≠ some g := fun e => by
  have := (World.ownsRow.lt h g e).1; omega

/-- append of one new row, in a region that draws. -/
theorem opR_own_app {α : Type} {w : World} {B : Nat} {e : TypeId} {sz : Nat} {enc : α → List Value} {v : Value} {xs : List α} {P : Program} {t : TypeId} {bytes : Nat} (E : ET P t e sz bytes) {o : Oper} {a : Act} {K : Value → World → Prop} (s x : Operand)
    (ho : o.op = .call { callee := .builtin .append, args := #[s, x], argTypes := #[t, t] })
    (hown : OwnR w B e sz enc v xs) (hs : a.eval s = v) (ys : List α) (ad : Addr) (c : Nat) (hx : a.eval x = .slice (some ad) ys.length c) (hl : ∀ y ∈ ys, (enc y).length = sz)
    (hnews : ∀ j u, (ys.flatMap enc)[j]? = some u → w.cell? (ad.add j) = some u) (h1 : ∀ y ∈ ys, ∀ u ∈ enc y, u.oneCell' = true)
    (hbytes : (xs.length + ys.length) * bytes ≤ 140737488355328) (hbase : B ≤ w.heap.size)
    (h : ∀ v' w', OwnR w' B e sz enc v' (xs ++ ys) → Below B w w' → Appd w w' v v' → K v' w') : opR P o a w K := by
  obtain ⟨ht, ⟨i, z, hi, hz, hsz, hby, hzs⟩, hs0, hb0⟩ := E
  have hlen : (ys.flatMap enc).length = ys.length * sz := by
    clear hnews hbytes h hx h1
    induction ys with
    | nil => simp
    | cons y ys ih => rw [List.flatMap_cons, List.length_append, hl y (by simp), ih (fun z hz => hl z (by simp [hz])), List.length_cons, Nat.succ_mul]; omega
  have hn : xs.length + ys.length ≤ (xs.length + ys.length) * bytes := Nat.le_mul_of_pos_right _ hb0
  have h63 : xs.length + ys.length ≤ maxLen := by simp only [maxLen]; omega
  have h1' : ∀ u ∈ ys.flatMap enc, u.oneCell' = true := fun u hu => by obtain ⟨y, hy, hu⟩ := List.mem_flatMap.1 hu; exact h1 y hy u hu
  obtain ⟨v', w', hr, h2, h3, h4⟩ := run_append_own (P := P) w B t o.type e i z sz bytes ht hi hz hsz hby hzs hs0 v xs.length _ hown ad ys.length c _ hlen hnews h1' h63 hbytes hbase
  have hp := append_place w B t o.type e i z sz bytes ht hi hz hsz hby hzs hs0 v xs.length _ hown ad ys.length c _ hlen hnews h1' h63 hbytes v' w' hr
  unfold opR execOp
  simp only [ho, resolve, invoke, builtin, Sem.run_bind, Sem.run_pure, Result.andThen_ok, List.map_toArray, List.map_cons, List.map_nil, hs, hx, hr]
  refine h v' w' ?_ ?_ ⟨fun b hb hne => h3.block b hb hne, hp, h3.size, h3.os, h3.tape, h3.output⟩
  · unfold OwnR; rw [List.length_append, List.flatMap_append]; exact h2
  · exact (Below.refl B w).grown h3 hbase fun k hk => (World.ownsRow.lt hown k hk).1
end Go.Sx

/-
  Law Dr inside a fence: a region that draws its order, the first operations walked in one chosen order, the rest (a call of yield, say) in the fenced calculus.
-/
namespace Go.Sx
open Go.RowKit

/-- A fence that asks nothing. -/
structure Free (F : Fence) (P : Program) : Prop where
  fn : ∀ f, F.fn f
  dep : F.depth.isSome = true → False
  calls : ∀ {f args w R}, Calls P f args w R → CallsIn F 0 P f args w R
  steps : ∀ {m m'}, StepsIn (Machine.fenced P Fence.wide) P m m' → StepsIn (Machine.fenced P F) P m m'
theorem free_wide (P : Program) : Free Fence.wide P := ⟨fun _ => trivial, fun h => absurd h (by simp [Fence.wide]), fun h => callsIn_wide.2 h, fun h => h⟩
theorem free_round (P : Program) (l : Nat) : Free (Fence.wide.inRound l) P := ⟨fun _ => trivial, fun h => absurd h (by simp [Fence.wide]), fun h => CallsIn.inRound l (callsIn_wide.2 h), fun h => h⟩

section
variable {F : Fence} {P : Program} {ops : Array Oper} {Q : Exit → Act → World → Prop} {md : Region.Mode} {R : World → World → Prop} {pre : Nat}

def wpKT (F : Fence) (P : Program) (md : Region.Mode) (ops : Array Oper) (R : World → World → Prop) (Q : Exit → Act → World → Prop) (pre : Nat) : Nat → Array Bool → Act → (World → Prop) → Prop
  | 0, listed, a, C => ∀ w, C w → wpAnyIn F 0 P md ops Q 0 listed a w
  | fuel + 1, listed, a, C => (∃ w, C w) →
    if preDone pre listed then ∀ w, C w → wpAnyIn F 0 P md ops Q (fuel + 1) listed a w
    else Region.ready md ops listed ≠ [] ∧ ∀ i ∈ Region.ready md ops listed, i < pre ∧ ckOp P ops R i (wpKT F P md ops R Q pre fuel (listed.setIfInBounds i true)) a C

theorem opR_wpIn (hF : Free F P) {o : Oper} (hnd : ∀ c, o.op ≠ .defer c) {K : Value → World → Prop} {a : Act} {w : World} {next : Act → World → Prop} (h : opR P o a w K) (hn : ∀ v w', K v w' → next (a.put o.dst v) w') : o.wpIn F 0 P a w next Q := by
  refine ⟨fun f _ => hF.fn f, ?_⟩
  rw [Oper.semAt_eq _ _ _ hnd]
  unfold opR at h
  generalize (execOp a.eval o).run P w = r at *
  cases r with
  | ok n w' =>
    cases n <;> simp only [uponR] at h <;> simp only [Oper.uponIn]
    · exact hn _ _ h
    · exact hn _ _ h
    · refine ⟨fun h => (hF.dep h).elim, hF.calls (h.mono fun e w'' ⟨v, he, hk⟩ => ?_)⟩
      subst he
      exact hn _ _ hk
  | halt x w' => exact h.elim

theorem wpOpIn_of_ckOp (hF : Free F P) (hdf : noDefer ops = true) {i : Nat} {K : Act → (World → Prop) → Prop} {K' : Act → World → Prop} {a : Act} {C : World → Prop} {w : World} (hC : C w) (hs : Stable R C)
    (h : ckOp P ops R i K a C) (hk : ∀ a C w, K a C → Stable R C → C w → K' a w) : wpOpIn F 0 P ops Q i K' a w := by
  unfold ckOp at h
  unfold wpOpIn
  split
  · rename_i ho; simp only [ho] at h; exact hk _ _ _ h hs hC
  · rename_i o ho
    simp only [ho] at h
    have hnd : ∀ c, o.op ≠ .defer c := fun c e => by
      have := Array.all_eq_true_iff_forall_mem.1 hdf o (Array.mem_of_getElem? ho)
      simp [e] at this
    split
    · rename_i hw
      simp only [hw, if_true] at h
      obtain ⟨Φ, hst, hr, hn⟩ := h
      refine opR_wpIn hF hnd (hr w hC) fun v w' ⟨h1, h2⟩ => hk _ _ w' (hn v ⟨w', hs w w' hC h1, h2⟩) ?_ ⟨hs w w' hC h1, h2⟩
      exact fun x y hx hxy => ⟨hs x y hx.1 hxy, hst v x y hx.2 hxy⟩
    · rename_i hw; simp only [hw] at h; exact ⟨fun f _ => hF.fn f, hk _ _ _ h hs hC⟩

theorem wpAnyIn_of_wpKT (hF : Free F P) (hdf : noDefer ops = true) : ∀ (fuel : Nat) (listed : Array Bool) (a : Act) (C : World → Prop) (w : World), wpKT F P md ops R Q pre fuel listed a C → Stable R C → C w → wpAnyIn F 0 P md ops Q fuel listed a w := by
  intro fuel
  induction fuel with
  | zero => intro listed a C w h _ hC; exact h w hC
  | succ fuel ih =>
    intro listed a C w h hs hC
    have h' := h ⟨w, hC⟩
    split at h'
    · exact h' w hC
    · exact ⟨fun h0 => absurd h0 h'.1, fun i hi => wpOpIn_of_ckOp hF hdf hC hs (h'.2 i hi).2 (fun a C w hk hs hC => ih _ a C w hk hs hC)⟩

theorem wpK_antiT : ∀ (fuel : Nat) (listed : Array Bool) (a : Act) (C C' : World → Prop), (∀ w, C' w → C w) → wpKT F P md ops R Q pre fuel listed a C → wpKT F P md ops R Q pre fuel listed a C' := by
  intro fuel
  induction fuel with
  | zero => intro listed a C C' hC h w hw; exact h w (hC w hw)
  | succ fuel ih =>
    intro listed a C C' hC h hne
    have h' := h (hne.imp fun w hw => hC w hw)
    split
    · rename_i hd; simp only [hd, if_true] at h'; exact fun w hw => h' w (hC w hw)
    · rename_i hd
      simp only [hd] at h'
      exact ⟨h'.1, fun i hi => ⟨(h'.2 i hi).1, ckOp_anti (fun a C C' hC hk => ih _ a C C' hC hk) hC (h'.2 i hi).2⟩⟩

/-- An operation with one value may be taken first. -/
theorem wpK_takeT {B : Nat → Nat → Bool} (hcl : closB md ops B = true) (hbar : barB ops B pre = true) (hpre : pre ≤ ops.size) (hsel : Region.noSelect ops = true) {i : Nat} {oi : Oper} {v : Value} (hi : ops[i]? = some oi) (hip : i < pre) :
    ∀ (fuel : Nat) (listed : Array Bool) (a : Act) (C : World → Prop), listed.size = ops.size → BC ops B listed →
      (∀ j oj, ops[j]? = some oj → j ≠ i → listed.getD j true = false → (∀ e ∈ oj.after, Region.binds md e = true → e.on ≠ i) → oi.apart ops oj = true) →
      i ∈ Region.ready md ops listed → Det P ops R C oi v a →
      wpKT F P md ops R Q pre fuel (listed.setIfInBounds i true) (a.put oi.dst v) C → wpKT F P md ops R Q pre (fuel + 1) listed a C := by
  intro fuel
  induction fuel with
  | zero =>
    intro listed a C hsz hbc _ hr hy H hne
    rw [if_neg (by rw [preDone_of_unlisted hip (mem_ready.1 hr).1]; exact Bool.false_ne_true)]
    refine ⟨fun h => (by rw [h] at hr; cases hr), fun j hj => ⟨bar_lt hcl hbar hpre hsz hbc hj (preDone_of_unlisted hip (mem_ready.1 hr).1), ?_⟩⟩
    by_cases hji : j = i
    · subst hji; exact hy.ckOp hi (fun a C C' hC hk => wpK_antiT _ _ _ _ _ hC hk) H
    · obtain ⟨w, hw⟩ := hne
      have h1 := ready_mono hj hji
      rw [(H w hw).1] at h1
      cases h1
  | succ fuel ih =>
    intro listed a C hsz hbc hfree hr hy H hne
    have hnd := preDone_of_unlisted hip (mem_ready.1 hr).1
    rw [if_neg (by rw [hnd]; exact Bool.false_ne_true)]
    refine ⟨fun h => (by rw [h] at hr; cases hr), fun j hj => ⟨bar_lt hcl hbar hpre hsz hbc hj hnd, ?_⟩⟩
    by_cases hji : j = i
    · subst hji; exact hy.ckOp hi (fun a C C' hC hk => wpK_antiT _ _ _ _ _ hC hk) H
    · have H' := H hne
      have hjp := bar_lt hcl hbar hpre hsz hbc hj hnd
      have hj' := ready_mono hj hji
      rw [if_neg (by rw [preDone_of_unlisted hjp (mem_ready.1 hj').1]; exact Bool.false_ne_true)] at H'
      have h1 := (H'.2 j hj').2
      obtain ⟨hjun, oj, hoj, hall⟩ := mem_ready.1 hj
      have hnot : ∀ e ∈ oj.after, Region.binds md e = true → e.on ≠ i := fun e he hb heq => by
        have h1 := hall e he hb
        have h0 := (mem_ready.1 hr).1
        rw [heq] at h1
        rcases Nat.lt_or_ge i listed.size with h' | h'
        · simp [h'] at h0 h1; rw [h0] at h1; cases h1
        · simp [Array.getElem?_eq_none h'] at h1
      have hfree' : ∀ k ok, ops[k]? = some ok → k ≠ i → (listed.setIfInBounds j true).getD k true = false →
          (∀ e ∈ ok.after, Region.binds md e = true → e.on ≠ i) → oi.apart ops ok = true := fun k ok hk hki hun hno => by
        refine hfree k ok hk hki ?_ hno
        by_cases hjk : j = k
        · subst hjk; exact hjun
        · rw [getD_set_ne true hjk] at hun; exact hun
      refine ckOp_put hoj (hfree j oj hoj hji hjun hnot) (fun cs b => Region.noSelect_spec hsel i oi cs b hi) (fun cs b => Region.noSelect_spec hsel j oj cs b hoj) hy h1 (fun a' C' hC' hy' hk' => ?_)
      refine ih (listed.setIfInBounds j true) a' C' (by simpa using hsz) (hbc.set hcl hsz hj) hfree' (ready_mono hr (Ne.symm hji)) hy' ?_
      rw [Array.setIfInBounds_comm _ _ hji]
      exact hk'

/-- The rest runs in the text's order. -/
theorem wpAnyIn_tail (hord : ∀ j, pre ≤ j → j < ops.size → ∃ o, ops[j]? = some o ∧ (∀ e ∈ o.after, Region.binds md e = true → e.on < j) ∧ (j = pre ∨ ∃ e ∈ o.after, Region.binds md e = true ∧ e.on = j - 1)) :
    ∀ (n k fuel : Nat) (listed : Array Bool) (a : Act) (w : World), k + n = ops.size → pre ≤ k → n ≤ fuel → listed.size = ops.size → (∀ i, i < k → listed.getD i true = true) → (∀ i, k ≤ i → i < ops.size → listed.getD i true = false) →
      wpListIn F 0 P ops Q (ops.toList.drop k) a w → wpAnyIn F 0 P md ops Q fuel listed a w := by
  intro n
  induction n with
  | zero =>
    intro k fuel listed a w hk _ _ hsz hl _ h
    have hr : Region.ready md ops listed = [] := by
      rw [List.eq_nil_iff_forall_not_mem]
      intro j hj
      obtain ⟨h0, o, ho, _⟩ := mem_ready.1 hj
      have hlt : j < ops.size := (Array.getElem?_eq_some_iff.1 ho).1
      rw [hl j (by omega)] at h0
      cases h0
    have hq : Q .normal a w := by
      rw [List.drop_eq_nil_of_le (by simp; omega)] at h
      exact h
    cases fuel with
    | zero => exact ⟨hr, hq⟩
    | succ fuel => exact ⟨fun _ => hq, fun i hi => by rw [hr] at hi; cases hi⟩
  | succ n ih =>
    intro k fuel listed a w hk hpk hnf hsz hl hu h
    obtain ⟨fuel, rfl⟩ : ∃ f, fuel = f + 1 := ⟨fuel - 1, by omega⟩
    have hklt : k < ops.size := by omega
    obtain ⟨o, ho, hedge, _⟩ := hord k hpk hklt
    have getF : ∀ i, i < ops.size → listed.getD i false = listed.getD i true := fun i hi => by
      have : i < listed.size := by omega
      simp [this]
    have hkr : k ∈ Region.ready md ops listed := mem_ready.2 ⟨hu k (Nat.le_refl _) hklt, o, ho, fun e he hb => by
      have h1 := hedge e he hb
      rw [getF _ (by omega)]
      exact hl _ h1⟩
    refine ⟨fun h0 => (by rw [h0] at hkr; cases hkr), fun j hj => ?_⟩
    obtain ⟨h0, oj, hoj, hall⟩ := mem_ready.1 hj
    have hjlt : j < ops.size := (Array.getElem?_eq_some_iff.1 hoj).1
    have hkj : k ≤ j := by
      rcases Nat.lt_or_ge j k with h' | h'
      · rw [hl j h'] at h0; cases h0
      · exact h'
    have hjk : j = k := by
      obtain ⟨o', ho', _, hc⟩ := hord j (by omega) hjlt
      rw [hoj] at ho'
      cases ho'
      rcases hc with hc | ⟨e, he, hb, heq⟩
      · omega
      · rcases Nat.lt_or_eq_of_le hkj with h' | h'
        · have h1 := hall e he hb
          rw [heq, getF _ (by omega), hu (j - 1) (by omega) (by omega)] at h1
          cases h1
        · exact h'.symm
    subst hjk
    have hd : ops.toList.drop j = o :: ops.toList.drop (j + 1) := by
      rw [List.drop_eq_getElem_cons (by simpa using hjlt)]
      congr 1
      have := (Array.getElem?_eq_some_iff.1 ho).2
      simpa using this
    rw [hd] at h
    unfold wpListIn at h
    unfold wpOpIn
    rw [hoj] at ho
    cases ho
    simp only [hoj]
    have next : ∀ a w, wpListIn F 0 P ops Q (ops.toList.drop (j + 1)) a w → wpAnyIn F 0 P md ops Q fuel (listed.setIfInBounds j true) a w := fun a w h' =>
      ih (j + 1) fuel (listed.setIfInBounds j true) a w (by omega) (by omega) (by omega) (by simpa using hsz)
        (fun i hi => by
          by_cases hij : j = i
          · subst hij; simp
          · rw [getD_set_ne true hij]; exact hl i (by omega))
        (fun i h1 h2 => by rw [getD_set_ne true (by omega)]; exact hu i (by omega) h2) h'
    split
    · rename_i hw
      rw [if_pos hw] at h
      exact Oper.wpIn_mono next h
    · rename_i hw
      rw [if_neg hw] at h
      exact ⟨h.1, next _ _ h.2⟩


def wpOrdT (F : Fence) (P : Program) (ops : Array Oper) (R : World → World → Prop) (Q : Exit → Act → World → Prop) (pre : Nat) : List (Nat × Bool) → Act → (World → Prop) → Prop
  | [], a, C => ∀ w, C w → wpListIn F 0 P ops Q (ops.toList.drop pre) a w
  | (i, true) :: rest, a, C => ∃ o v, ops[i]? = some o ∧ Det P ops R C o v a ∧ wpOrdT F P ops R Q pre rest (a.put o.dst v) C
  | (i, false) :: rest, a, C => ckOp P ops R i (wpOrdT F P ops R Q pre rest) a C

theorem wpK_of_ordT {B : Nat → Nat → Bool} (hcl : closB md ops B = true) (hbar : barB ops B pre = true) (hpre : pre ≤ ops.size) (hsel : Region.noSelect ops = true) :
    ∀ (l : List (Nat × Bool)) (fuel : Nat) (listed : Array Bool) (a : Act) (C : World → Prop), listed.size = ops.size → BC ops B listed → l.length + (ops.size - pre) ≤ fuel →
      ordOk md ops pre l listed = true → wpOrdT F P ops R Q pre l a C → wpKT F P md ops R Q pre fuel listed a C := by
  intro l
  induction l with
  | nil =>
    intro fuel listed a C hsz hbc hf hB h
    simp only [ordOk, Bool.and_eq_true, List.all_eq_true, List.mem_range, Bool.or_eq_true, decide_eq_true_eq, Bool.not_eq_true'] at hB
    obtain ⟨⟨hd, hu⟩, hc⟩ := hB
    have hdl : ∀ i, i < pre → listed.getD i true = true := fun i hi => List.all_eq_true.1 hd i (List.mem_range.2 hi)
    have hord : ∀ j, pre ≤ j → j < ops.size → ∃ o, ops[j]? = some o ∧ (∀ e ∈ o.after, Region.binds md e = true → e.on < j) ∧ (j = pre ∨ ∃ e ∈ o.after, Region.binds md e = true ∧ e.on = j - 1) := fun j hj hlt => by
      have := (hc j hlt).resolve_left (by omega)
      rw [Array.getElem?_eq_getElem hlt] at this
      simp only [Bool.and_eq_true, Bool.or_eq_true, decide_eq_true_eq, Array.all_eq_true_iff_forall_mem, Array.any_eq_true', Bool.not_eq_true', beq_iff_eq] at this
      refine ⟨ops[j], Array.getElem?_eq_getElem hlt, fun e he hb => ?_, ?_⟩
      · rcases this.1 e he with h1 | h1
        · rw [hb] at h1; cases h1
        · exact h1
      · rcases this.2 with h1 | ⟨e, he, h1, h2⟩
        · exact .inl h1
        · exact .inr ⟨e, he, h1, h2⟩
    have key : ∀ w, C w → wpAnyIn F 0 P md ops Q fuel listed a w := fun w hw =>
      wpAnyIn_tail hord (ops.size - pre) pre fuel listed a w (by omega) (Nat.le_refl _) (by simpa using hf) hsz hdl (fun i h1 h2 => (hu i h2).resolve_left (by omega)) (h w hw)
    cases fuel with
    | zero => exact key
    | succ fuel => exact fun _ => by rw [if_pos hd]; exact key
  | cons x rest ih =>
    obtain ⟨i, b⟩ := x
    intro fuel listed a C hsz hbc hf hB h
    obtain ⟨fuel, rfl⟩ : ∃ f, fuel = f + 1 := ⟨fuel - 1, by simp at hf; omega⟩
    cases b with
    | true =>
      simp only [ordOk, Bool.and_eq_true, decide_eq_true_eq] at hB
      obtain ⟨⟨⟨hip, hr⟩, hfr⟩, hB'⟩ := hB
      obtain ⟨o, v, ho, hy, hn⟩ := h
      have hr' : i ∈ Region.ready md ops listed := by simpa using hr
      exact wpK_takeT hcl hbar hpre hsel ho hip fuel listed a C hsz hbc (Region.free_spec ho hfr) hr' hy
        (ih fuel _ _ _ (by simpa using hsz) (hbc.set hcl hsz hr') (by simp at hf; omega) hB' hn)
    | false =>
      simp only [ordOk, Bool.and_eq_true, decide_eq_true_eq, beq_iff_eq] at hB
      obtain ⟨⟨hip, hr⟩, hB'⟩ := hB
      have hr' : i ∈ Region.ready md ops listed := by rw [hr]; simp
      intro hne
      rw [if_neg (by rw [preDone_of_unlisted hip (mem_ready.1 hr').1]; exact Bool.false_ne_true)]
      refine ⟨by rw [hr]; simp, fun j hj => ?_⟩
      rw [hr] at hj
      obtain rfl : j = i := by simpa using hj
      refine ⟨hip, ?_⟩
      have h' : ckOp P ops R j (wpOrdT F P ops R Q pre rest) a C := h
      have hk : ∀ a C, wpOrdT F P ops R Q pre rest a C → wpKT F P md ops R Q pre fuel (listed.setIfInBounds j true) a C := fun a C hn =>
        ih fuel _ a C (by simpa using hsz) (hbc.set hcl hsz hr') (by simp at hf; omega) hB' hn
      unfold ckOp at *
      split
      · rename_i ho; simp only [ho] at h'; exact hk _ _ h'
      · rename_i o ho
        simp only [ho] at h'
        split
        · rename_i hw
          simp only [hw, if_true] at h'
          obtain ⟨Φ, h1, h2, h3⟩ := h'
          exact ⟨Φ, h1, h2, fun v hv => hk _ _ (h3 v hv)⟩
        · rename_i hw; simp only [hw] at h'; exact hk _ _ h'


theorem wpIn_region_ordT (hF : Free F P) {id : Nat} {a : Act} {w : World} (l : List (Nat × Bool)) (pre : Nat) (R : World → World → Prop) (C : World → Prop) (hm : P.follows .mixedOrders = true) (hB : (noDefer ops && okB .any ops pre l (befB ops)) = true)
    (hs : Stable R C) (hC : C { w with drawn := w.drawn + 1 }) (h : wpOrdT F P ops R Q pre l a C) : (Code.region id ops true).wpIn F 0 P Q a w := by
  simp only [okB, Bool.and_eq_true, decide_eq_true_eq] at hB
  obtain ⟨hdf, ⟨⟨⟨⟨h1, h2⟩, h3⟩, h4⟩, h5⟩, h6⟩ := hB
  refine wpIn_region_any hm (wpAnyIn_of_wpKT hF hdf (R := R) (pre := pre) _ _ _ C _ ?_ hs hC)
  refine wpK_of_ordT h1 h2 h3 h4 l _ _ a C (by simp) (fun j i hj hi hl _ => ?_) h5 h6 h
  simp [hj] at hl

theorem ordT_det {i : Nat} {rest : List (Nat × Bool)} {a a' : Act} {C : World → Prop} {o : Oper} {v : Value} (ho : ops[i]? = some o) (hg : o.guard = none)
    (h : ∀ w, C w → opR P o a w (fun u w' => R w w' ∧ u = v)) (ha : a.put o.dst v = a') (hn : wpOrdT F P ops R Q pre rest a' C) : wpOrdT F P ops R Q pre ((i, true) :: rest) a C := by
  subst ha
  exact ⟨o, v, ho, .inl ⟨by simp [Region.wanted, hg], h⟩, hn⟩
theorem ordT_yes {i : Nat} {rest : List (Nat × Bool)} {a a' : Act} {C : World → Prop} {o : Oper} {v : Value} (ho : ops[i]? = some o) (hg : Region.wanted o (yielded ops a.tmps) = true)
    (h : ∀ w, C w → opR P o a w (fun u w' => R w w' ∧ u = v)) (ha : a.put o.dst v = a') (hn : wpOrdT F P ops R Q pre rest a' C) : wpOrdT F P ops R Q pre ((i, true) :: rest) a C := by
  subst ha
  exact ⟨o, v, ho, .inl ⟨hg, h⟩, hn⟩
theorem ordT_no {i : Nat} {rest : List (Nat × Bool)} {a a' : Act} {C : World → Prop} {o : Oper} (ho : ops[i]? = some o) (hg : Region.wanted o (yielded ops a.tmps) = false)
    (ha : a.put o.dst undef = a') (hn : wpOrdT F P ops R Q pre rest a' C) : wpOrdT F P ops R Q pre ((i, true) :: rest) a C := by
  subst ha
  exact ⟨o, undef, ho, .inr ⟨hg, rfl⟩, hn⟩
theorem ordT_nil {a : Act} {C : World → Prop} {l : List Oper} (hl : ops.toList.drop pre = l) (h : ∀ w, C w → wpListIn F 0 P ops Q l a w) : wpOrdT F P ops R Q pre [] a C := by
  show ∀ w, C w → wpListIn F 0 P ops Q (ops.toList.drop pre) a w
  rw [hl]; exact h

/-- The rest of a region, out of the fence. -/
theorem wpListIn_of (hF : Free F P) (hq : ¬ LetsOut Q) : ∀ (l : List Oper) (a : Act) (w : World), noDefer l.toArray = true → wpList P ops Q l a w → wpListIn F 0 P ops Q l a w
  | [], _, _, _, h => h
  | o :: rest, a, w, hd, h => by
    have hd' : noDefer rest.toArray = true := by
      unfold noDefer at hd ⊢
      simp only [List.all_toArray, List.all_cons, Bool.and_eq_true] at hd ⊢
      exact hd.2
    have hnd : ∀ c, o.op ≠ .defer c := fun c e => by
      unfold noDefer at hd
      simp [e] at hd
    unfold wpList at h
    unfold wpListIn
    split
    · rename_i hw
      rw [if_pos hw] at h
      rcases h with h | ⟨_, h⟩
      case inr => exact absurd h hq
      refine ⟨fun f _ => hF.fn f, ?_⟩
      rw [Oper.semAt_eq _ _ _ hnd]
      unfold Oper.wp at h
      generalize (execOp a.eval o).run P w = r at *
      cases r with
      | ok x w' =>
        cases x <;> simp only [Oper.upon] at h <;> simp only [Oper.uponIn]
        · exact wpListIn_of hF hq _ _ _ hd' h
        · exact wpListIn_of hF hq _ _ _ hd' h
        · refine ⟨fun h => (hF.dep h).elim, hF.calls (h.mono fun e w'' he => ?_)⟩
          cases e with
          | returned v => exact wpListIn_of hF hq _ _ _ hd' he
          | panicked c => exact he
          | outgrown => exact he
        · exact wpListIn_of hF hq _ _ _ hd' h
        · refine ⟨fun h => (hF.dep h).elim, fun c cs _ => ?_⟩
          obtain ⟨v, w'', r, s⟩ := h c cs
          exact ⟨v, w'', wpListIn_of hF hq _ _ _ hd' r, hF.steps (stepsIn_wide.2 s)⟩
      | halt x w' => cases x <;> simp only [Oper.upon] at h <;> simp only [Oper.uponIn] <;> exact h
    · rename_i hw
      rw [if_neg hw] at h
      exact ⟨fun f _ => hF.fn f, wpListIn_of hF hq _ _ _ hd' h⟩

theorem bodyPostM_ret0 {P : Program} {fn : Func} {R : Ending → World → Prop} {a : Act} {W : World} {v : Value} (hd : a.defers = []) (hr : (results fn a.tmps).run P W = .ok v W) (hR : R (.returned v) W) : bodyPostM Fence.wide 0 P fn R .ret a W := by
  show LeavesInM Fence.wide 0 P fn a.tmps R a.defers .returning W
  rw [hd]
  exact ⟨_, hr, hR⟩

/-! ### What stays behind a write of one block -/
theorem Sl.kb {α : Type} {w w' : World} {sz : Nat} {enc : α → List Value} {v : Value} {xs : List α} {g : Nat} (s : Sl w sz enc v xs) (k : Kb (some g) w w') (hne : xs ≠ [] → ∀ a n c, v = .slice (some a) n c → a.block ≠ g) : Sl w' sz enc v xs := by
  obtain ⟨a?, cap, rfl, h1, h2, h3, h4⟩ := s
  refine ⟨a?, cap, rfl, h1, h2, h3, fun i hi => ?_⟩
  obtain ⟨a, rfl, hc⟩ := h4 i hi
  refine ⟨a, rfl, fun j hj => k.cell (hc j hj) ?_⟩
  rw [add_block]
  exact fun e => hne (by rintro rfl; exact absurd hi (Nat.not_lt_zero _)) a _ _ rfl (Option.some.inj e)
theorem SlB.kb {α : Type} {w w' : World} {B : Nat} {sz : Nat} {enc : α → List Value} {v : Value} {xs : List α} {g : Nat} (s : SlB w B sz enc v xs) (k : Kb (some g) w w') (hg : B ≤ g) : SlB w' B sz enc v xs :=
  ⟨s.1.kb k fun hx a n c e h => by have := s.2 hx a n c e; omega, s.2⟩
theorem Kb.block {g : Nat} {w w' : World} (h : Kb (some g) w w') {b : Nat} {o : Obj} (hb : w.heap[b]? = some o) (hne : b ≠ g) : w'.heap[b]? = some o :=
  (h.kept b (Array.getElem?_eq_some_iff.1 hb).1 (fun e => hne (Option.some.inj e))).trans hb
theorem Kb.on {g : Nat} {w a b : World} {B : Nat} (h : Kb (some g) w a) (k : Below B a b) (hB : w.heap.size ≤ B) : Kb (some g) w b :=
  ⟨k.os.trans h.os, k.tape.trans h.tape, k.output.trans h.output, Nat.le_trans h.size k.size, fun x hx hg => (k.block x (Nat.lt_of_lt_of_le hx hB)).trans (h.kept x hx hg)⟩
theorem Kb.setCell {g : Nat} {w a : World} (h : Kb (some g) w a) (j : Nat) (v : Value) : Kb (some g) w (a.setCell ⟨g, j, none⟩ v) :=
  ⟨h.os, h.tape, h.output, by simpa using h.size, fun x hx hg => (Below.heap_setCell _ _ _ _ (fun e => hg (by rw [e]))).trans (h.kept x hx hg)⟩
theorem Abide.kb {B g : Nat} {w : World} (h2 : w.heap.size ≤ B) : Abide B (fun W => Kb (some g) w W) :=
  ⟨fun _ _ h k => h.trans (k.kb _), fun _ _ l h hl k => by
    obtain ⟨o, o', h1, h3, h4, rfl⟩ := k
    refine ⟨h.os, h.tape, h.output, by simpa using h.size, fun b hb hg => ?_⟩
    rw [World.putObj_heap_other (by omega)]
    exact h.kept b hb hg⟩
end
end Go.Sx
