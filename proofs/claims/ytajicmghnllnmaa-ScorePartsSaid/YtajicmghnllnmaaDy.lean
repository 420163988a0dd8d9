/-
  A third law on regions that draw their order (as Dx, but an operation may lean on what another one, that it waits for by an edge, has made): besides operations with one value, such as yield a new thing in any world of a class (a call that makes a row, a literal), and such as are alone ready and may write into what the class 'Cd' does not speak of.
-/
import Derived.Test.YtajicmghnllnmaaDr
set_option linter.unusedVariables false
namespace Go.Sx.Y
open Go.Sx

/-- What is asked of one operation: 'A' is what its value is, 'T' what its value means in the world behind it. -/
structure Kd where
  alone : Bool
  A : Value → Prop
  T : Value → World → Prop
  w0 : Value
  hA : A w0
  need : List Nat

def Kd.det (v : Value) : Kd := ⟨false, fun u => u = v, fun _ _ => True, v, rfl, []⟩
/-- One value, by what operations of 'need' made. -/
def Kd.use (need : List Nat) (v : Value) : Kd := ⟨false, fun u => u = v, fun _ _ => True, v, rfl, need⟩
def Kd.new (A : Value → Prop) (T : Value → World → Prop) (w0 : Value) (hA : A w0) (need : List Nat := []) : Kd := ⟨false, A, T, w0, hA, need⟩
def Kd.one (A : Value → Prop) (T : Value → World → Prop) (w0 : Value) (hA : A w0) (need : List Nat := []) : Kd := ⟨true, A, T, w0, hA, need⟩

section
variable {P : Program} {ops : Array Oper} {Q : Exit → Act → World → Prop} {md : Region.Mode} {R1 R2 : World → World → Prop} {Cd : World → Prop} {pre : Nat} {kd : Nat → Kd}

def upd (σ : Nat → Value) (i : Nat) (v : Value) : Nat → Value := fun k => if k = i then v else σ k
theorem upd_same (σ : Nat → Value) (i : Nat) (v : Value) : upd σ i v i = v := if_pos rfl
theorem upd_ne (σ : Nat → Value) {i k : Nat} (v : Value) (h : k ≠ i) : upd σ i v k = σ k := if_neg h
theorem upd_comm (σ : Nat → Value) {i j : Nat} (h : i ≠ j) (v u : Value) : upd (upd σ i v) j u = upd (upd σ j u) i v := by
  funext k
  unfold upd
  by_cases h1 : k = j
  · rw [if_pos h1, if_neg (fun e => h (e.symm.trans h1)), if_pos h1]
  · rw [if_neg h1, if_neg h1]
/-- What operations have made, as far as it is asked for. -/
def Nd (kd : Nat → Kd) (σ : Nat → Value) (ks : List Nat) (w : World) : Prop := ∀ k ∈ ks, (kd k).T (σ k) w
theorem Nd_upd {σ : Nat → Value} {i : Nat} {v : Value} {ks : List Nat} (h : i ∉ ks) : Nd kd (upd σ i v) ks = Nd kd σ ks := by
  funext w
  apply propext
  unfold Nd
  constructor <;> intro hk k hm
  · have := hk k hm
    rwa [upd_ne _ _ (fun (e : _ = i) => h (by rw [← e]; exact hm))] at this
  · rw [upd_ne _ _ (fun (e : _ = i) => h (by rw [← e]; exact hm))]; exact hk k hm

def opS (P : Program) (R1 R2 : World → World → Prop) (Cd : World → Prop) (kd : Nat → Kd) (σ : Nat → Value) (k : Kd) (o : Oper) (a : Act) (C : World → Prop) : Prop :=
  if k.alone then ∀ w, Cd w → C w → Nd kd σ k.need w → opR P o a w (fun v w' => R2 w w' ∧ k.A v ∧ k.T v w') else ∀ w, Cd w → Nd kd σ k.need w → opR P o a w (fun v w' => R1 w w' ∧ k.A v ∧ k.T v w')

def stepK (P : Program) (ops : Array Oper) (R1 R2 : World → World → Prop) (Cd : World → Prop) (kd : Nat → Kd) (k : Kd) (i : Nat) (K : (Nat → Value) → Act → (World → Prop) → (World → Prop) → Prop) (σ : Nat → Value) (a : Act) (C D : World → Prop) : Prop :=
  match ops[i]? with
  | none => K σ a C D
  | some o =>
    if Region.wanted o (yielded ops a.tmps) then
      opS P R1 R2 Cd kd σ k o a C ∧ ∀ v, k.A v → K (upd σ i v) (a.put o.dst v) (if k.alone then k.T v else C) (if k.alone then D else fun w => D w ∧ k.T v w)
    else K σ (a.put o.dst undef) C D

def wpX (P : Program) (md : Region.Mode) (ops : Array Oper) (R1 R2 : World → World → Prop) (Cd : World → Prop) (kd : Nat → Kd) (Q : Exit → Act → World → Prop) (pre : Nat) : Nat → Array Bool → (Nat → Value) → Act → (World → Prop) → (World → Prop) → Prop
  | 0, listed, _, a, C, D => Region.ready md ops listed = [] ∧ ∀ w, Cd w → C w → D w → wpAny P md ops Q 0 listed a w
  | fuel + 1, listed, σ, a, C, D =>
    if preDone pre listed then ∀ w, Cd w → C w → D w → wpAny P md ops Q (fuel + 1) listed a w
    else Region.ready md ops listed ≠ [] ∧ ∀ i ∈ Region.ready md ops listed, i < pre ∧ stepK P ops R1 R2 Cd kd (kd i) i (wpX P md ops R1 R2 Cd kd Q pre fuel (listed.setIfInBounds i true)) σ a C D

theorem stepK_mono {k : Kd} {i : Nat} {K K' : (Nat → Value) → Act → (World → Prop) → (World → Prop) → Prop} {σ : Nat → Value} {a : Act} {C D D' : World → Prop} (hD : ∀ w, D' w → D w) (hK : ∀ σ a C D D', (∀ w, D' w → D w) → K σ a C D → K' σ a C D') (h : stepK P ops R1 R2 Cd kd k i K σ a C D) :
    stepK P ops R1 R2 Cd kd k i K' σ a C D' := by
  unfold stepK at *
  split
  · rename_i ho; simp only [ho] at h; exact hK _ _ _ _ _ hD h
  · rename_i o ho
    simp only [ho] at h
    split
    · rename_i hw
      simp only [hw, if_true] at h
      refine ⟨h.1, fun v hv => hK _ _ _ _ _ (fun w => ?_) (h.2 v hv)⟩
      cases k.alone
      · exact fun ⟨x, y⟩ => ⟨hD w x, y⟩
      · exact hD w
    · rename_i hw; simp only [hw] at h; exact hK _ _ _ _ _ hD h

theorem wpX_anti : ∀ (fuel : Nat) (listed : Array Bool) (σ : Nat → Value) (a : Act) (C D D' : World → Prop), (∀ w, D' w → D w) → wpX P md ops R1 R2 Cd kd Q pre fuel listed σ a C D → wpX P md ops R1 R2 Cd kd Q pre fuel listed σ a C D' := by
  intro fuel
  induction fuel with
  | zero => intro listed σ a C D D' hD h; exact ⟨h.1, fun w h1 h2 h3 => h.2 w h1 h2 (hD w h3)⟩
  | succ fuel ih =>
    intro listed σ a C D D' hD h
    unfold wpX at h ⊢
    split
    · rename_i hd; simp only [hd, if_true] at h; exact fun w h1 h2 h3 => h w h1 h2 (hD w h3)
    · rename_i hd
      simp only [hd] at h
      exact ⟨h.1, fun i hi => ⟨(h.2 i hi).1, stepK_mono hD (fun σ a C D D' hD hk => ih _ σ a C D D' hD hk) (h.2 i hi).2⟩⟩

structure Fits2 (R1 R2 : World → World → Prop) (Cd : World → Prop) (kd : Nat → Kd) : Prop where
  sub : ∀ w w', R1 w w' → R2 w w'
  cd : Stable R2 Cd
  one : ∀ i, (kd i).alone = true → ∀ v, Stable R1 ((kd i).T v)
  new : ∀ i, (kd i).alone = false → ∀ v, Stable R2 ((kd i).T v)

/-- What is leant on: each operation that is leant on is waited for, is not alone, and has no guard. -/
structure Leans (md : Region.Mode) (ops : Array Oper) (kd : Nat → Kd) : Prop where
  edge : ∀ i oi, ops[i]? = some oi → ∀ k ∈ (kd i).need, ∃ e ∈ oi.after, Region.binds md e = true ∧ e.on = k
  plain : ∀ i, ∀ k ∈ (kd i).need, (kd k).alone = false ∧ ∃ ok, ops[k]? = some ok ∧ ok.guard = none

theorem wpAny_of_wpX (F : Fits2 R1 R2 Cd kd) (N : Leans md ops kd) : ∀ (fuel : Nat) (listed : Array Bool) (σ : Nat → Value) (a : Act) (C D : World → Prop) (w : World), wpX P md ops R1 R2 Cd kd Q pre fuel listed σ a C D → Stable R1 C → Stable R2 D → Cd w → C w → D w →
    (∀ i, ∀ k ∈ (kd i).need, listed.getD k true = true → (kd k).T (σ k) w) → listed.size = ops.size → wpAny P md ops Q fuel listed a w := by
  intro fuel
  induction fuel with
  | zero => intro listed σ a C D w h _ _ h1 h2 h3 _ _; exact h.2 w h1 h2 h3
  | succ fuel ih =>
    intro listed σ a C D w h hs hd h1 h2 h3 hI hsz
    unfold wpX at h
    split at h
    · exact h w h1 h2 h3
    · refine ⟨fun h0 => absurd h0 h.1, fun i hi => ?_⟩
      have hk := (h.2 i hi).2
      obtain ⟨hun, oi0, hoi0, hall⟩ := mem_ready.1 hi
      have hsz' : (listed.setIfInBounds i true).size = ops.size := by simpa using hsz
      unfold stepK at hk
      unfold wpOp
      split
      · rename_i ho; rw [ho] at hoi0; cases hoi0
      · rename_i o ho
        simp only [ho] at hk
        have hND : Nd kd σ (kd i).need w := fun k hkn => by
          obtain ⟨e, he, hb, hon⟩ := N.edge i o ho k hkn
          have h4 := hall e (by rw [ho] at hoi0; cases hoi0; exact he) hb
          rw [hon] at h4
          exact hI i k hkn (by
            rcases Nat.lt_or_ge k listed.size with h' | h'
            · simp [h'] at h4 ⊢; exact h4
            · simp [Array.getElem?_eq_none h'] at h4)
        have later : ∀ (v : Value) (w' : World), R2 w w' → ((kd i).alone = false → (kd i).T v w') → ∀ i', ∀ k ∈ (kd i').need, (listed.setIfInBounds i true).getD k true = true → (kd k).T (upd σ i v k) w' := fun v w' hr hT i' k hkn hl => by
          by_cases hki : k = i
          · subst hki
            rw [upd_same]
            exact hT (N.plain i' k hkn).1
          · rw [upd_ne _ _ hki]
            rw [getD_set_ne true (Ne.symm hki)] at hl
            exact F.new k (N.plain i' k hkn).1 (σ k) w w' (hI i' k hkn hl) hr
        split
        · rename_i hw
          simp only [hw, if_true] at hk
          obtain ⟨hop, hn⟩ := hk
          unfold opS at hop
          cases hal : (kd i).alone
          · simp only [hal, Bool.false_eq_true, if_false] at hop hn
            refine .inl (opR_wp (hop w h1 hND) fun v w' ⟨k1, k2, k3⟩ => ih _ _ _ _ _ w' (hn v k2) hs ?_ (F.cd _ _ h1 (F.sub _ _ k1)) (hs _ _ h2 k1) ⟨hd _ _ h3 (F.sub _ _ k1), k3⟩ (later v w' (F.sub _ _ k1) (fun _ => k3)) hsz')
            exact fun x y hx hxy => ⟨hd x y hx.1 hxy, F.new i hal v x y hx.2 hxy⟩
          · simp only [hal, if_true] at hop hn
            exact .inl (opR_wp (hop w h1 h2 hND) fun v w' ⟨k1, k2, k3⟩ => ih _ _ _ _ _ w' (hn v k2) (F.one i hal v) hd (F.cd _ _ h1 k1) k3 (hd _ _ h3 k1) (later v w' k1 (fun h => by rw [hal] at h; cases h)) hsz')
        · rename_i hw
          simp only [hw] at hk
          refine ih _ _ _ _ _ _ hk hs hd h1 h2 h3 (fun i' k hkn hl => ?_) hsz'
          by_cases hki : k = i
          · subst hki
            obtain ⟨_, ok, hok, hg⟩ := N.plain i' k hkn
            rw [ho] at hok; cases hok
            exact absurd (by simp [Region.wanted, hg]) hw
          · rw [getD_set_ne true (Ne.symm hki)] at hl
            exact hI i' k hkn hl

theorem opS_put {k : Kd} {σ : Nat → Value} {oj : Oper} {dst : Option Tmp} {v u : Value} {i : Nat} (hsj : ∀ cs b, oj.op ≠ .select cs b) {a : Act} {C : World → Prop} (h1 : ∀ d, dst = some d → d ∉ oj.looksAt ops) (hn : i ∉ k.need) :
    opS P R1 R2 Cd kd (upd σ i u) k oj (a.put dst v) C = opS P R1 R2 Cd kd σ k oj a C := by
  unfold opS opR
  rw [execOp_put (ops := ops) oj hsj a dst v h1, Nd_upd hn]

/-- An operation apart from another's: the same steps, the other way round. -/
theorem stepK_put {k : Kd} {σ : Nat → Value} {i j : Nat} {oi oj : Oper} (hj : ops[j]? = some oj) (hap : oi.apart ops oj = true) (hsj : ∀ cs b, oj.op ≠ .select cs b) (hn : i ∉ k.need) (hij : i ≠ j) {v u0 : Value} {K : (Nat → Value) → Act → (World → Prop) → (World → Prop) → Prop} {a : Act} {C D : World → Prop}
    (h : stepK P ops R1 R2 Cd kd k j K (upd σ i u0) (a.put oi.dst v) C D) :
    (Region.wanted oj (yielded ops a.tmps) = true → opS P R1 R2 Cd kd σ k oj a C ∧ ∀ u, k.A u → K (upd (upd σ j u) i u0) ((a.put oj.dst u).put oi.dst v) (if k.alone then k.T u else C) (if k.alone then D else fun w => D w ∧ k.T u w)) ∧
    (Region.wanted oj (yielded ops a.tmps) = false → K (upd σ i u0) ((a.put oj.dst undef).put oi.dst v) C D) := by
  obtain ⟨h1, h2, h3⟩ := Oper.apart_spec hap
  unfold stepK at h
  simp only [hj] at h
  rw [wanted_put oj a oi.dst v h1, opS_put hsj h1 hn] at h
  refine ⟨fun hw => ?_, fun hw => ?_⟩
  · simp only [hw, if_true] at h
    exact ⟨h.1, fun u hu => by rw [← Act.put_comm a v u h2, ← upd_comm σ hij u0 u]; exact h.2 u hu⟩
  · simp only [hw, Bool.false_eq_true, if_false] at h
    rw [← Act.put_comm a v undef h2]; exact h
/-- .. where the first one was not wanted. -/
theorem stepK_put' {k : Kd} {σ : Nat → Value} {j : Nat} {oi oj : Oper} (hj : ops[j]? = some oj) (hap : oi.apart ops oj = true) (hsj : ∀ cs b, oj.op ≠ .select cs b) {v : Value} {K : (Nat → Value) → Act → (World → Prop) → (World → Prop) → Prop} {a : Act} {C D : World → Prop}
    (h : stepK P ops R1 R2 Cd kd k j K σ (a.put oi.dst v) C D) :
    (Region.wanted oj (yielded ops a.tmps) = true → opS P R1 R2 Cd kd σ k oj a C ∧ ∀ u, k.A u → K (upd σ j u) ((a.put oj.dst u).put oi.dst v) (if k.alone then k.T u else C) (if k.alone then D else fun w => D w ∧ k.T u w)) ∧
    (Region.wanted oj (yielded ops a.tmps) = false → K σ ((a.put oj.dst undef).put oi.dst v) C D) := by
  obtain ⟨h1, h2, h3⟩ := Oper.apart_spec hap
  unfold stepK at h
  simp only [hj] at h
  have he : opS P R1 R2 Cd kd σ k oj (a.put oi.dst v) C = opS P R1 R2 Cd kd σ k oj a C := by
    unfold opS opR
    rw [execOp_put (ops := ops) oj hsj a oi.dst v h1]
  rw [wanted_put oj a oi.dst v h1, he] at h
  refine ⟨fun hw => ?_, fun hw => ?_⟩
  · simp only [hw, if_true] at h
    exact ⟨h.1, fun u hu => by rw [← Act.put_comm a v u h2]; exact h.2 u hu⟩
  · simp only [hw, Bool.false_eq_true, if_false] at h
    rw [← Act.put_comm a v undef h2]; exact h

/-- An operation that is not 'alone' may be taken first. -/
theorem wpX_take (N : Leans md ops kd) {B : Nat → Nat → Bool} (hcl : closB md ops B = true) (hbar : barB ops B pre = true) (hpre : pre ≤ ops.size) (hsel : Region.noSelect ops = true) {i : Nat} {oi : Oper} (hi : ops[i]? = some oi) (hip : i < pre) (hal : (kd i).alone = false) :
    ∀ (fuel : Nat) (listed : Array Bool) (σ : Nat → Value) (a : Act) (C D : World → Prop), listed.size = ops.size → BC ops B listed →
      (∀ j oj, ops[j]? = some oj → j ≠ i → listed.getD j true = false → (∀ e ∈ oj.after, Region.binds md e = true → e.on ≠ i) → oi.apart ops oj = true) →
      i ∈ Region.ready md ops listed →
      stepK P ops R1 R2 Cd kd (kd i) i (wpX P md ops R1 R2 Cd kd Q pre fuel (listed.setIfInBounds i true)) σ a C D → wpX P md ops R1 R2 Cd kd Q pre (fuel + 1) listed σ a C D := by
  intro fuel
  induction fuel with
  | zero =>
    intro listed σ a C D hsz hbc _ hr H
    unfold wpX
    rw [if_neg (by rw [preDone_of_unlisted hip (mem_ready.1 hr).1]; exact Bool.false_ne_true)]
    refine ⟨fun h => (by rw [h] at hr; cases hr), fun j hj => ⟨bar_lt hcl hbar hpre hsz hbc hj (preDone_of_unlisted hip (mem_ready.1 hr).1), ?_⟩⟩
    by_cases hji : j = i
    · subst hji; exact H
    · exfalso
      have h1 := ready_mono hj hji
      unfold stepK at H
      simp only [hi] at H
      split at H
      · have := (H.2 (kd i).w0 (kd i).hA).1
        rw [this] at h1; cases h1
      · rw [H.1] at h1; cases h1
  | succ fuel ih =>
    intro listed σ a C D hsz hbc hfree hr H
    have hnd := preDone_of_unlisted hip (mem_ready.1 hr).1
    unfold wpX
    rw [if_neg (by rw [hnd]; exact Bool.false_ne_true)]
    refine ⟨fun h => (by rw [h] at hr; cases hr), fun j hj => ⟨bar_lt hcl hbar hpre hsz hbc hj hnd, ?_⟩⟩
    by_cases hji : j = i
    · subst hji; exact H
    · have hjp := bar_lt hcl hbar hpre hsz hbc hj hnd
      have hj' := ready_mono hj hji
      obtain ⟨hjun, oj, hoj, hall⟩ := mem_ready.1 hj
      obtain ⟨hiun, oi', hoi', hall'⟩ := mem_ready.1 hr
      have hnot : ∀ e ∈ oj.after, Region.binds md e = true → e.on ≠ i := fun e he hb heq => by
        have h1 := hall e he hb
        have h0 := (mem_ready.1 hr).1
        rw [heq] at h1
        rcases Nat.lt_or_ge i listed.size with h' | h'
        · simp [h'] at h0 h1; rw [h0] at h1; cases h1
        · simp [Array.getElem?_eq_none h'] at h1
      have hnot' : ∀ e ∈ oi.after, Region.binds md e = true → e.on ≠ j := fun e he hb heq => by
        have h1 := hall' e (by rw [hi] at hoi'; cases hoi'; exact he) hb
        rw [heq] at h1
        rcases Nat.lt_or_ge j listed.size with h' | h'
        · simp [h'] at hjun h1; rw [hjun] at h1; cases h1
        · simp [Array.getElem?_eq_none h'] at h1
      have hnij : i ∉ (kd j).need := fun h => by
        obtain ⟨e, he, hb, hon⟩ := N.edge j oj hoj i h
        exact hnot e he hb hon
      have hnji : j ∉ (kd i).need := fun h => by
        obtain ⟨e, he, hb, hon⟩ := N.edge i oi hi j h
        exact hnot' e he hb hon
      have hfree' : ∀ k ok, ops[k]? = some ok → k ≠ i → (listed.setIfInBounds j true).getD k true = false →
          (∀ e ∈ ok.after, Region.binds md e = true → e.on ≠ i) → oi.apart ops ok = true := fun k ok hk hki hun hno => by
        refine hfree k ok hk hki ?_ hno
        by_cases hjk : j = k
        · subst hjk; exact hjun
        · rw [getD_set_ne true hjk] at hun; exact hun
      have hap := hfree j oj hoj hji hjun hnot
      obtain ⟨a1, a2, a3⟩ := Oper.apart_spec hap
      have hsi := fun cs b => Region.noSelect_spec hsel i oi cs b hi
      have hsj := fun cs b => Region.noSelect_spec hsel j oj cs b hoj
      have go : ∀ u0 v D', wpX P md ops R1 R2 Cd kd Q pre (fuel + 1) (listed.setIfInBounds i true) (upd σ i u0) (a.put oi.dst v) C D' → _ := fun u0 v D' hx => by
        unfold wpX at hx
        rw [if_neg (by rw [preDone_of_unlisted hjp (mem_ready.1 hj').1]; exact Bool.false_ne_true)] at hx
        exact stepK_put hoj hap hsj hnij (Ne.symm hji) (hx.2 j hj').2
      have go' : ∀ v D', wpX P md ops R1 R2 Cd kd Q pre (fuel + 1) (listed.setIfInBounds i true) σ (a.put oi.dst v) C D' → _ := fun v D' hx => by
        unfold wpX at hx
        rw [if_neg (by rw [preDone_of_unlisted hjp (mem_ready.1 hj').1]; exact Bool.false_ne_true)] at hx
        exact stepK_put' hoj hap hsj (hx.2 j hj').2
      unfold stepK at H
      simp only [hi] at H
      have hwi : ∀ u, Region.wanted oi (yielded ops (a.put oj.dst u).tmps) = Region.wanted oi (yielded ops a.tmps) := fun u => wanted_put oi a oj.dst u a3
      have hcomm : (listed.setIfInBounds i true).setIfInBounds j true = (listed.setIfInBounds j true).setIfInBounds i true := Array.setIfInBounds_comm _ _ (Ne.symm hji)
      have fin : ∀ τ u C' D', stepK P ops R1 R2 Cd kd (kd i) i (wpX P md ops R1 R2 Cd kd Q pre fuel ((listed.setIfInBounds j true).setIfInBounds i true)) τ (a.put oj.dst u) C' D' →
          wpX P md ops R1 R2 Cd kd Q pre (fuel + 1) (listed.setIfInBounds j true) τ (a.put oj.dst u) C' D' := fun τ u C' D' hs =>
        ih (listed.setIfInBounds j true) τ _ C' D' (by simpa using hsz) (hbc.set hcl hsz hj) hfree' (ready_mono hr (Ne.symm hji)) hs
      unfold stepK
      simp only [hoj]
      by_cases hw : Region.wanted oi (yielded ops a.tmps) = true
      · simp only [hw, if_true, hal, Bool.false_eq_true, if_false] at H
        have hop : ∀ C' u u0, opS P R1 R2 Cd kd (upd σ j u0) (kd i) oi (a.put oj.dst u) C' := fun C' u u0 => by
          rw [opS_put hsi a3 hnji]
          have := H.1
          unfold opS at this ⊢
          simpa only [hal, Bool.false_eq_true, if_false] using this
        have hop' : ∀ C' u, opS P R1 R2 Cd kd σ (kd i) oi (a.put oj.dst u) C' := fun C' u => by
          have := H.1
          unfold opS opR at this ⊢
          rw [execOp_put (ops := ops) oi hsi a oj.dst u a3]
          simpa only [hal, Bool.false_eq_true, if_false] using this
        split
        · rename_i hwj
          refine ⟨((go _ _ _ (H.2 (kd i).w0 (kd i).hA)).1 hwj).1, fun u hu => fin _ u _ _ ?_⟩
          unfold stepK
          simp only [hi, hwi, hw, if_true]
          refine ⟨hop _ u u, fun v hv => ?_⟩
          have h2 := ((go _ _ _ (H.2 v hv)).1 hwj).2 u hu
          rw [hcomm] at h2
          simp only [hal, Bool.false_eq_true, if_false]
          refine wpX_anti _ _ _ _ _ _ _ (fun w => ?_) h2
          cases (kd j).alone
          · exact fun ⟨⟨x, y⟩, z⟩ => ⟨⟨x, z⟩, y⟩
          · exact id
        · rename_i hwj
          refine fin σ undef _ _ ?_
          unfold stepK
          simp only [hi, hwi, hw, if_true]
          refine ⟨hop' _ _, fun v hv => ?_⟩
          have h2 := (go _ _ _ (H.2 v hv)).2 (by simpa using hwj)
          rw [hcomm] at h2
          simp only [hal, Bool.false_eq_true, if_false]
          exact h2
      · simp only [hw] at H
        split
        · rename_i hwj
          refine ⟨((go' _ _ H).1 hwj).1, fun u hu => fin _ u _ _ ?_⟩
          unfold stepK
          simp only [hi, hwi, hw]
          have h2 := ((go' _ _ H).1 hwj).2 u hu
          rw [hcomm] at h2
          exact h2
        · rename_i hwj
          refine fin σ undef _ _ ?_
          unfold stepK
          simp only [hi, hwi, hw]
          have h2 := (go' _ _ H).2 (by simpa using hwj)
          rw [hcomm] at h2
          exact h2

/-! ### The user's own order -/
def Stab (R1 R2 : World → World → Prop) (k : Kd) : Prop := (k.alone = true → ∀ v, Stable R1 (k.T v)) ∧ (k.alone = false → ∀ v, Stable R2 (k.T v))
theorem stab_det (v : Value) : Stab R1 R2 (Kd.det v) := ⟨(fun h => by cases h), fun _ _ _ _ _ _ => trivial⟩
def ordX (P : Program) (ops : Array Oper) (R1 R2 : World → World → Prop) (Cd : World → Prop) (kd : Nat → Kd) (Q : Exit → Act → World → Prop) (pre : Nat) : List (Nat × Kd) → (Nat → Value) → Act → (World → Prop) → (World → Prop) → Prop
  | [], _, a, C, D => ∀ w, Cd w → C w → D w → wpList P ops Q (ops.toList.drop pre) a w
  | (i, k) :: rest, σ, a, C, D => Stab R1 R2 k ∧ stepK P ops R1 R2 Cd kd k i (ordX P ops R1 R2 Cd kd Q pre rest) σ a C D

theorem ordX_anti : ∀ (l : List (Nat × Kd)) (σ : Nat → Value) (a : Act) (C D D' : World → Prop), (∀ w, D' w → D w) → ordX P ops R1 R2 Cd kd Q pre l σ a C D → ordX P ops R1 R2 Cd kd Q pre l σ a C D'
  | [], σ, a, C, D, D', hD, h => fun w h1 h2 h3 => h w h1 h2 (hD w h3)
  | (i, k) :: rest, σ, a, C, D, D', hD, h => ⟨h.1, stepK_mono hD (fun σ a C D D' hD hk => ordX_anti rest σ a C D D' hD hk) h.2⟩
theorem ordX_stab : ∀ (l : List (Nat × Kd)) (σ : Nat → Value) (a : Act) (C D : World → Prop), ordX P ops R1 R2 Cd kd Q pre l σ a C D → ∀ x ∈ l, Stab R1 R2 x.2
  | (i, k) :: rest, σ, a, C, D, h, x, hx => by
    rcases List.mem_cons.1 hx with rfl | hx
    · exact h.1
    · have h2 := h.2
      unfold stepK at h2
      split at h2
      · exact ordX_stab rest _ _ _ _ h2 x hx
      · split at h2
        · exact ordX_stab rest _ _ _ _ (h2.2 k.w0 k.hA) x hx
        · exact ordX_stab rest _ _ _ _ h2 x hx

theorem wpX_of_ord (N : Leans md ops kd) {B : Nat → Nat → Bool} (hcl : closB md ops B = true) (hbar : barB ops B pre = true) (hpre : pre ≤ ops.size) (hsel : Region.noSelect ops = true) :
    ∀ (l : List (Nat × Kd)) (fuel : Nat) (listed : Array Bool) (σ : Nat → Value) (a : Act) (C D : World → Prop), (∀ x ∈ l, kd x.1 = x.2) → listed.size = ops.size → BC ops B listed → l.length + (ops.size - pre) ≤ fuel →
      ordOk md ops pre (l.map fun x => (x.1, !x.2.alone)) listed = true → ordX P ops R1 R2 Cd kd Q pre l σ a C D → wpX P md ops R1 R2 Cd kd Q pre fuel listed σ a C D := by
  intro l
  induction l with
  | nil =>
    intro fuel listed σ a C D _ hsz hbc hf hB h
    simp only [List.map_nil, ordOk, Bool.and_eq_true, List.all_eq_true, List.mem_range, Bool.or_eq_true, decide_eq_true_eq, Bool.not_eq_true'] at hB
    obtain ⟨⟨hd, hu⟩, hc⟩ := hB
    have hdl : ∀ i, i < pre → listed.getD i true = true := fun i hi => List.all_eq_true.1 hd i (List.mem_range.2 hi)
    have hord : ∀ j, pre ≤ j → j < ops.size → ∃ o, ops[j]? = some o ∧ (∀ e ∈ o.after, Region.binds md e = true → e.on < j) ∧ (j = pre ∨ ∃ e ∈ o.after, Region.binds md e = true ∧ e.on = j - 1) := fun j hj hlt => by
      have := (hc j hlt).resolve_left (by omega)
      rw [Array.getElem?_eq_getElem hlt] at this
      simp only [Bool.and_eq_true, Bool.or_eq_true, decide_eq_true_eq, Array.all_eq_true_iff_forall_mem, Array.any_eq_true', Bool.not_eq_true', beq_iff_eq] at this
      refine ⟨ops[j], Array.getElem?_eq_getElem hlt, fun e he hb => ?_, ?_⟩
      · rcases this.1 e he with h1 | h1
        · rw [hb] at h1; cases h1
        · exact h1
      · rcases this.2 with h1 | ⟨e, he, h1, h2⟩
        · exact .inl h1
        · exact .inr ⟨e, he, h1, h2⟩
    have key : ∀ w, Cd w → C w → D w → wpAny P md ops Q fuel listed a w := fun w h1 h2 h3 =>
      wpAny_tail hord (ops.size - pre) pre fuel listed a w (by omega) (Nat.le_refl _) (by simpa using hf) hsz hdl (fun i h1 h2 => (hu i h2).resolve_left (by omega)) (h w h1 h2 h3)
    cases fuel with
    | zero =>
      refine ⟨?_, key⟩
      rw [List.eq_nil_iff_forall_not_mem]
      intro j hj
      obtain ⟨h0, o, ho, _⟩ := mem_ready.1 hj
      have hlt : j < ops.size := (Array.getElem?_eq_some_iff.1 ho).1
      rw [hdl j (by simp at hf; omega)] at h0
      cases h0
    | succ fuel => unfold wpX; rw [if_pos hd]; exact key
  | cons x rest ih =>
    obtain ⟨i, k⟩ := x
    intro fuel listed σ a C D hkd hsz hbc hf hB h
    obtain ⟨fuel, rfl⟩ : ∃ f, fuel = f + 1 := ⟨fuel - 1, by simp at hf; omega⟩
    have hki : kd i = k := hkd (i, k) (by simp)
    have hrest : ∀ x ∈ rest, kd x.1 = x.2 := fun x hx => hkd x (by simp [hx])
    have h' : stepK P ops R1 R2 Cd kd (kd i) i (ordX P ops R1 R2 Cd kd Q pre rest) σ a C D := by rw [hki]; exact h.2
    cases hal : k.alone with
    | false =>
      simp only [List.map_cons, hal, Bool.not_false, ordOk, Bool.and_eq_true, decide_eq_true_eq] at hB
      obtain ⟨⟨⟨hip, hr⟩, hfr⟩, hB'⟩ := hB
      have hr' : i ∈ Region.ready md ops listed := by simpa using hr
      obtain ⟨_, o, ho, _⟩ := mem_ready.1 hr'
      exact wpX_take N hcl hbar hpre hsel ho hip (by rw [hki]; exact hal) fuel listed σ a C D hsz hbc (Region.free_spec ho hfr) hr'
        (stepK_mono (fun _ h => h) (fun σ a C D D' hD hk => wpX_anti _ _ _ _ _ _ _ hD (ih fuel _ σ a C D hrest (by simpa using hsz) (hbc.set hcl hsz hr') (by simp at hf; omega) hB' hk)) h')
    | true =>
      simp only [List.map_cons, hal, Bool.not_true, ordOk, Bool.and_eq_true, decide_eq_true_eq, beq_iff_eq] at hB
      obtain ⟨⟨hip, hr⟩, hB'⟩ := hB
      have hr' : i ∈ Region.ready md ops listed := by rw [hr]; simp
      unfold wpX
      rw [if_neg (by rw [preDone_of_unlisted hip (mem_ready.1 hr').1]; exact Bool.false_ne_true)]
      refine ⟨by rw [hr]; simp, fun j hj => ?_⟩
      rw [hr] at hj
      obtain rfl : j = i := by simpa using hj
      exact ⟨hip, stepK_mono (fun _ h => h) (fun σ a C D D' hD hk => wpX_anti _ _ _ _ _ _ _ hD (ih fuel _ σ a C D hrest (by simpa using hsz) (hbc.set hcl hsz hr') (by simp at hf; omega) hB' hk)) h'⟩

def kdOf (l : List (Nat × Kd)) (i : Nat) : Kd := ((l.find? fun x => x.1 == i).map (·.2)).getD (Kd.det undef)
theorem kdOf_mem : ∀ {l : List (Nat × Kd)}, (l.map (·.1)).Nodup → ∀ x ∈ l, kdOf l x.1 = x.2
  | y :: l, h, x, hx => by
    rw [List.map_cons, List.nodup_cons] at h
    unfold kdOf
    rcases List.mem_cons.1 hx with rfl | hx
    · simp
    · have hne : (y.1 == x.1) = false := beq_eq_false_iff_ne.2 fun e => h.1 (by rw [e]; exact List.mem_map.2 ⟨x, hx, rfl⟩)
      rw [List.find?_cons, hne]
      exact kdOf_mem h.2 x hx
theorem kdOf_all {p : Kd → Prop} {l : List (Nat × Kd)} (h0 : p (Kd.det undef)) (h : ∀ x ∈ l, p x.2) (i : Nat) : p (kdOf l i) := by
  unfold kdOf
  cases hf : l.find? fun x => x.1 == i with
  | none => exact h0
  | some x => exact h x (List.mem_of_find?_eq_some hf)

/-- What leans on what, as data: closed facts. -/
def leansB (md : Region.Mode) (ops : Array Oper) (nd : List (Nat × List Nat)) : Bool :=
  nd.all fun x => match ops[x.1]? with
    | none => false
    | some o => x.2.all fun k => o.after.any (fun e => Region.binds md e && e.on == k) && (match ops[k]? with | some ok => ok.guard.isNone | none => false)
theorem kdOf_mem' {l : List (Nat × Kd)} {i : Nat} (h : (kdOf l i).need ≠ []) : (i, kdOf l i) ∈ l := by
  unfold kdOf at *
  cases hf : l.find? fun x => x.1 == i with
  | none => rw [hf] at h; exact absurd rfl h
  | some x =>
    have h1 := List.find?_some hf
    simp only [beq_iff_eq] at h1
    simp only [Option.map_some, Option.getD_some]
    rw [← h1]
    exact List.mem_of_find?_eq_some hf
theorem leans_of {l : List (Nat × Kd)} {nd : List (Nat × List Nat)} (hN : leansB md ops nd = true) (hnd : l.map (fun x => (x.1, x.2.need)) = nd) (hal : ∀ x ∈ l, ∀ k ∈ x.2.need, (kdOf l k).alone = false) : Leans md ops (kdOf l) := by
  subst hnd
  have key : ∀ i, ∀ k ∈ (kdOf l i).need, ∃ o, ops[i]? = some o ∧ (∃ e ∈ o.after, Region.binds md e = true ∧ e.on = k) ∧ ∃ ok, ops[k]? = some ok ∧ ok.guard = none := fun i k hk => by
    have hm := kdOf_mem' (l := l) (i := i) (fun h => by rw [h] at hk; cases hk)
    have hx := List.all_eq_true.1 hN (i, (kdOf l i).need) (List.mem_map.2 ⟨_, hm, rfl⟩)
    cases ho : ops[i]? with
    | none => simp only [ho] at hx; cases hx
    | some o =>
      simp only [ho] at hx
      have h2 := List.all_eq_true.1 hx k hk
      rw [Bool.and_eq_true] at h2
      obtain ⟨h3, h4⟩ := h2
      refine ⟨o, rfl, ?_, ?_⟩
      · obtain ⟨e, he, hb⟩ := Array.any_eq_true'.1 h3
        rw [Bool.and_eq_true, beq_iff_eq] at hb
        exact ⟨e, he, hb⟩
      · cases hk2 : ops[k]? with
        | none => simp only [hk2] at h4; cases h4
        | some ok => simp only [hk2, Option.isNone_iff_eq_none] at h4; exact ⟨ok, rfl, h4⟩
  refine ⟨fun i oi hoi k hk => ?_, fun i k hk => ?_⟩
  · obtain ⟨o, ho, he, _⟩ := key i k hk
    rw [hoi] at ho; cases ho
    exact he
  · obtain ⟨o, _, _, hg⟩ := key i k hk
    exact ⟨hal _ (kdOf_mem' (fun h => by rw [h] at hk; cases hk)) k hk, hg⟩

/-- A region that draws its order, walked in one chosen order. 'nd': which operation leans on which. -/
theorem wp_region_ordY {id : Nat} {a : Act} {w : World} (l : List (Nat × Kd)) (pre : Nat) (R1 R2 : World → World → Prop) (Cd C : World → Prop) (hm : P.follows .mixedOrders = true) (ix : List (Nat × Bool)) (nd : List (Nat × List Nat)) (hB : okB .any ops pre ix (befB ops) = true) (hN : leansB .any ops nd = true)
    (hix : l.map (fun x => (x.1, !x.2.alone)) = ix) (hndd : l.map (fun x => (x.1, x.2.need)) = nd) (hal : ∀ x ∈ l, ∀ k ∈ x.2.need, (kdOf l k).alone = false) (hnd : (ix.map (·.1)).Nodup) (sub : ∀ w w', R1 w w' → R2 w w') (hcd : Stable R2 Cd) (hs : Stable R1 C)
    (h1 : Cd { w with drawn := w.drawn + 1 }) (h2 : C { w with drawn := w.drawn + 1 }) (h : ordX P ops R1 R2 Cd (kdOf l) Q pre l (fun _ => undef) a C (fun _ => True)) : (Code.region id ops true).wp P Q a w := by
  have N := leans_of hN hndd hal
  subst hix
  simp only [okB, Bool.and_eq_true, decide_eq_true_eq] at hB
  obtain ⟨⟨⟨⟨⟨b1, b2⟩, b3⟩, b4⟩, b5⟩, b6⟩ := hB
  have hkd := ordX_stab _ _ _ _ _ h
  refine wp_region_any hm (wpAny_of_wpX (R1 := R1) (R2 := R2) (Cd := Cd) (kd := kdOf l) (pre := pre) ⟨sub, hcd, fun i => (kdOf_all (p := fun k => (k.alone = true → ∀ v, Stable R1 (k.T v)) ∧ (k.alone = false → ∀ v, Stable R2 (k.T v))) ⟨(fun h => by cases h), fun _ _ _ _ _ _ => trivial⟩ hkd i).1,
    fun i => (kdOf_all (p := fun k => (k.alone = true → ∀ v, Stable R1 (k.T v)) ∧ (k.alone = false → ∀ v, Stable R2 (k.T v))) ⟨(fun h => by cases h), fun _ _ _ _ _ _ => trivial⟩ hkd i).2⟩ N _ _ (fun _ => undef) _ C (fun _ => True) _ ?_ hs (fun _ _ _ _ => trivial) h1 h2 trivial ?_ (by simp))
  · refine wpX_of_ord N b1 b2 b3 b4 l _ _ _ a C _ (kdOf_mem (by rw [List.map_map] at hnd; exact hnd)) (by simp) (fun j i hj hi hl _ => ?_) (by rw [List.length_map] at b5; exact b5) b6 h
    simp [hj] at hl
  · intro i k hk hl
    obtain ⟨_, ok, hok, _⟩ := N.plain i k hk
    have hlt : k < ops.size := (Array.getElem?_eq_some_iff.1 hok).1
    simp [hlt] at hl

/-! ### One step each -/
variable {C D : World → Prop} {rest : List (Nat × Kd)} {i : Nat} {σ : Nat → Value} {a : Act} {o : Oper}
theorem ordX_det {a' : Act} {v : Value} (ho : ops[i]? = some o) (hg : o.guard = none) (h : ∀ w, Cd w → opR P o a w (fun u w' => R1 w w' ∧ u = v)) (ha : a.put o.dst v = a') (hn : ordX P ops R1 R2 Cd kd Q pre rest (upd σ i v) a' C D) :
    ordX P ops R1 R2 Cd kd Q pre ((i, Kd.det v) :: rest) σ a C D := by
  subst ha
  refine ⟨stab_det _, ?_⟩
  unfold stepK
  simp only [ho]
  rw [if_pos (by simp [Region.wanted, hg])]
  refine ⟨?_, fun u hu => ?_⟩
  · show ∀ w, Cd w → _ → _
    exact fun w hw _ => opR_mono (fun u w' h => ⟨h.1, h.2, trivial⟩) (h w hw)
  · cases hu
    exact ordX_anti rest _ _ _ _ _ (fun w h => h.1) hn
theorem ordX_yes {a' : Act} {v : Value} (ho : ops[i]? = some o) (hg : Region.wanted o (yielded ops a.tmps) = true) (h : ∀ w, Cd w → opR P o a w (fun u w' => R1 w w' ∧ u = v)) (ha : a.put o.dst v = a') (hn : ordX P ops R1 R2 Cd kd Q pre rest (upd σ i v) a' C D) :
    ordX P ops R1 R2 Cd kd Q pre ((i, Kd.det v) :: rest) σ a C D := by
  subst ha
  refine ⟨stab_det _, ?_⟩
  unfold stepK
  simp only [ho]
  rw [if_pos hg]
  refine ⟨?_, fun u hu => ?_⟩
  · show ∀ w, Cd w → _ → _
    exact fun w hw _ => opR_mono (fun u w' h => ⟨h.1, h.2, trivial⟩) (h w hw)
  · cases hu
    exact ordX_anti rest _ _ _ _ _ (fun w h => h.1) hn
theorem ordX_no {a' : Act} {v : Value} (ho : ops[i]? = some o) (hg : Region.wanted o (yielded ops a.tmps) = false) (ha : a.put o.dst undef = a') (hn : ordX P ops R1 R2 Cd kd Q pre rest σ a' C D) :
    ordX P ops R1 R2 Cd kd Q pre ((i, Kd.det v) :: rest) σ a C D := by
  subst ha
  refine ⟨stab_det _, ?_⟩
  unfold stepK
  simp only [ho]
  rw [if_neg (by simp [hg])]
  exact hn
/-- One value, by what another operation has made: 'n' names what is leant on, its value and what it means. -/
theorem ordX_use {a' : Act} {v : Value} {k : Nat} (ho : ops[i]? = some o) (hg : o.guard = none) (h : ∀ w, Cd w → (kd k).T (σ k) w → opR P o a w (fun u w' => R1 w w' ∧ u = v)) (ha : a.put o.dst v = a') (hn : ordX P ops R1 R2 Cd kd Q pre rest (upd σ i v) a' C D) :
    ordX P ops R1 R2 Cd kd Q pre ((i, Kd.use [k] v) :: rest) σ a C D := by
  subst ha
  refine ⟨⟨(fun h => by cases h), fun _ _ _ _ _ _ => trivial⟩, ?_⟩
  unfold stepK
  simp only [ho]
  rw [if_pos (by simp [Region.wanted, hg])]
  refine ⟨?_, fun u hu => ?_⟩
  · show ∀ w, Cd w → _ → _
    exact fun w hw hN => opR_mono (fun u w' h => ⟨h.1, h.2, trivial⟩) (h w hw (hN k (by simp [Kd.use])))
  · cases hu
    exact ordX_anti rest _ _ _ _ _ (fun w h => h.1) hn
theorem ordX_new {A : Value → Prop} {T : Value → World → Prop} {w0 : Value} {hA : A w0} {ks : List Nat} {a' : Value → Act} (hst : ∀ v, Stable R2 (T v)) (ho : ops[i]? = some o) (hg : o.guard = none) (h : ∀ w, Cd w → Nd kd σ ks w → opR P o a w (fun u w' => R1 w w' ∧ A u ∧ T u w')) (ha : ∀ v, a.put o.dst v = a' v)
    (hn : ∀ v, A v → ordX P ops R1 R2 Cd kd Q pre rest (upd σ i v) (a' v) C (fun w => D w ∧ T v w)) : ordX P ops R1 R2 Cd kd Q pre ((i, Kd.new A T w0 hA ks) :: rest) σ a C D := by
  refine ⟨⟨(fun h => by cases h), fun _ => hst⟩, ?_⟩
  unfold stepK
  simp only [ho]
  rw [if_pos (by simp [Region.wanted, hg])]
  exact ⟨h, fun v hv => by rw [ha]; exact hn v hv⟩
theorem ordX_one {A : Value → Prop} {T : Value → World → Prop} {w0 : Value} {hA : A w0} {ks : List Nat} {a' : Value → Act} (hst : ∀ v, Stable R1 (T v)) (ho : ops[i]? = some o) (hg : o.guard = none) (h : ∀ w, Cd w → C w → Nd kd σ ks w → opR P o a w (fun u w' => R2 w w' ∧ A u ∧ T u w')) (ha : ∀ v, a.put o.dst v = a' v)
    (hn : ∀ v, A v → ordX P ops R1 R2 Cd kd Q pre rest (upd σ i v) (a' v) (T v) D) : ordX P ops R1 R2 Cd kd Q pre ((i, Kd.one A T w0 hA ks) :: rest) σ a C D := by
  refine ⟨⟨fun _ => hst, (fun h => by cases h)⟩, ?_⟩
  unfold stepK
  simp only [ho]
  rw [if_pos (by simp [Region.wanted, hg])]
  exact ⟨h, fun v hv => by rw [ha]; exact hn v hv⟩
theorem ordX_nil {l : List Oper} (hl : ops.toList.drop pre = l) (h : ∀ w, Cd w → C w → D w → wpList P ops Q l a w) : ordX P ops R1 R2 Cd kd Q pre [] σ a C D := by
  show ∀ w, Cd w → C w → D w → wpList P ops Q (ops.toList.drop pre) a w
  rw [hl]; exact h
end
end Go.Sx.Y
