/-
  Libraries of these proofs, laid as one text: Rwl, Mpi, Rgt.
-/
import Derived.Test.YtgfaiihekibcbaaGreatDoorLibB
import Derived.Test.YtgfaiihekibcbaaGreatDoorLibA
import Derived.Maps.OwnIn
import Derived.Maps.OwnSet
import Derived.Maps.Views
/-
  The relation of a region that stores into one row; rows that a function of the index fills.
-/
set_option linter.unusedVariables false
namespace Go.Sx
open Go.RowKit

/-- All but block r stays, A stays, and N stays once it holds. -/
def Rw (r : Nat) (A N : World → Prop) (w w' : World) : Prop := Kb (some r) w w' ∧ (A w → A w') ∧ (N w → N w')
theorem Rw.refl {r : Nat} {A N : World → Prop} (w : World) : Rw r A N w w := ⟨Kb.refl _ _, id, id⟩
def Cw (r : Nat) (A : World → Prop) (w0 w : World) : Prop := Kb (some r) w0 w ∧ A w
theorem stable_cw {r : Nat} {A N : World → Prop} {w0 : World} : Stable (Rw r A N) (Cw r A w0) := fun _ _ h k => ⟨h.1.trans k.1, k.2.1 h.2⟩
theorem kb_set (w : World) (r j : Nat) (v : Value) : Kb (some r) w (w.setCell ⟨r, j, none⟩ v) :=
  ⟨rfl, rfl, rfl, by simp, fun b _ hb => Below.heap_setCell _ _ _ _ (fun e => hb (congrArg some e))⟩
theorem kb_sets (r : Nat) : ∀ (vs : List Value) (w : World) (o : Nat), Kb (some r) w (w.setCells r o vs)
  | [], w, o => Kb.refl _ _
  | v :: vs, w, o => by
    have h := kb_sets r vs (w.setCell ⟨r, o, none⟩ v) (o + 1)
    exact (kb_set w r o v).trans h
theorem Kb.at {g : Nat} {w w' : World} (h : Kb (some g) w w') {k : Nat} {o : Obj} (hk : w.heap[k]? = some o) (hne : k ≠ g) : w'.heap[k]? = some o :=
  (h.kept k (Array.getElem?_eq_some_iff.1 hk).1 (fun e => hne (Option.some.inj e))).trans hk

/-- The list of F's values below n. -/
def rgL {α : Type} (F : Nat → α) (n : Nat) : List α := (List.range n).map F
theorem rgL_len {α : Type} (F : Nat → α) (n : Nat) : (rgL F n).length = n := by simp [rgL]
theorem rgL_get {α : Type} (F : Nat → α) {n k : Nat} (h : k < (rgL F n).length) : (rgL F n)[k] = F k := by simp [rgL]
theorem rgL_congr {α : Type} {F G : Nat → α} {n : Nat} (h : ∀ i, i < n → F i = G i) : rgL F n = rgL G n := List.map_congr_left fun i hi => h i (List.mem_range.1 hi)
theorem rgL_set {α : Type} (F : Nat → α) (n k : Nat) (y : α) : (rgL F n).set k y = rgL (fun i => if i = k then y else F i) n := by
  refine List.ext_getElem (by simp [rgL]) fun i h1 h2 => ?_
  have h3 : i < (rgL F n).length := by rw [List.length_set] at h1; exact h1
  rw [List.getElem_set, rgL_get _ h2, rgL_get F h3]
  by_cases e : k = i
  · subst e; simp
  · rw [if_neg e, if_neg (fun h => e (Eq.symm h))]
theorem rgL_rep {α : Type} (x : α) (n : Nat) : List.replicate n x = rgL (fun _ => x) n := by
  refine List.ext_getElem (by simp [rgL]) fun i h1 h2 => ?_
  rw [List.getElem_replicate, rgL_get _ h2]
theorem Bk.kb {α : Type} {w w' : World} {g r : Nat} {e : TypeId} {enc : α → List Value} {xs : List α} (h : Bk w g e enc xs) (k : Kb (some r) w w') (hne : g ≠ r) : Bk w' g e enc xs := by
  obtain ⟨cs, h1, h2⟩ := h
  exact ⟨cs, k.at h1 hne, h2⟩
/-- Two rows of different types do not share their block. -/
theorem Bk.ne_of {α β : Type} {w : World} {g g' : Nat} {e e' : TypeId} {enc : α → List Value} {enc' : β → List Value} {xs : List α} {ys : List β} (h : Bk w g e enc xs) (k : Bk w g' e' enc' ys) (hne : e ≠ e') : g ≠ g' := by
  rintro rfl
  obtain ⟨cs, h1, -⟩ := h
  obtain ⟨cs', h2, -⟩ := k
  rw [h1] at h2
  cases h2
  exact hne rfl
theorem Bk.ne_block {α : Type} {w : World} {g g' : Nat} {e e' : TypeId} {enc : α → List Value} {xs : List α} {cs : Array Value} {z : Nat × Nat} (h : Bk w g e enc xs) (k : w.heap[g']? = some (.cells cs e' z)) (hne : e ≠ e') : g ≠ g' := by
  rintro rfl
  obtain ⟨cs, h1, -⟩ := h
  rw [h1] at k
  cases k
  exact hne rfl
end Go.Sx

/-
  Maps that the call makes, with plain keys and plain values: as functions of the key.
-/
set_option linter.unusedVariables false
namespace Go.Sx
open Go.RowKit Go.WideMaps

/-- Block b is a map of at most cnt entries that holds at each key what S says. -/
def MpL (P : Program) (kt et : TypeId) (b cnt : Nat) (S : Lit → Option Lit) (w : World) : Prop :=
  ∃ D : DataW Unit, w.ownsMap P kt (plainElem P et) b cnt D ∧ ∀ l z, WideAt.IsKeyLit l → D.atKey l z = (match S l with | some x => .lit x | none => z)
/-- One key more. -/
noncomputable def updL (S : Lit → Option Lit) (kl x : Lit) : Lit → Option Lit := fun l => open Classical in if l = kl then some x else S l
theorem updL_same (S : Lit → Option Lit) (kl x : Lit) : updL S kl x kl = some x := by unfold updL; rw [if_pos rfl]
theorem updL_other (S : Lit → Option Lit) {kl l : Lit} (h : l ≠ kl) (x : Lit) : updL S kl x l = S l := by unfold updL; rw [if_neg h]

section
variable {P : Program} {kt et : TypeId} {b cnt : Nat} {S : Lit → Option Lit} {w w' : World}
theorem MpL.made (w : World) (P : Program) (kt et : TypeId) : MpL P kt et w.heap.size 0 (fun _ => none) (w.alloc (.map #[] 0)) :=
  ⟨_, World.ownsMap_made w _ _ _, fun l z _ => rfl⟩
theorem MpL.lt (h : MpL P kt et b cnt S w) : b < w.heap.size := by obtain ⟨D, h1, _⟩ := h; exact h1.lt
theorem MpL.kept (h : MpL P kt et b cnt S w) (hb : w'.heap[b]? = w.heap[b]?) : MpL P kt et b cnt S w' := by
  obtain ⟨D, ⟨es, cl, h1, h2⟩, h3⟩ := h
  exact ⟨D, ⟨es, cl, hb.trans h1, h2⟩, h3⟩
theorem MpL.ext (h : MpL P kt et b cnt S w) (x : Ext w w') : MpL P kt et b cnt S w' := h.kept (x.block b h.lt)
theorem MpL.setCell (h : MpL P kt et b cnt S w) (p : Addr) (v : Value) (hp : b ≠ p.block) : MpL P kt et b cnt S (w.setCell p v) := h.kept (Below.heap_setCell _ _ _ _ hp)
theorem MpL.mono (h : MpL P kt et b cnt S w) {cnt' : Nat} (hc : cnt ≤ cnt') : MpL P kt et b cnt' S w := by
  obtain ⟨D, h1, h2⟩ := h
  exact ⟨D, h1.mono hc, h2⟩
theorem MpL.isMap (h : MpL P kt et b cnt S w) : ∃ o, w.heap[b]? = some o ∧ o.isCells = false := by obtain ⟨D, ⟨es, cl, h1, _⟩, _⟩ := h; exact ⟨_, h1, rfl⟩
theorem MpL.put_of {D : DataW Unit} (hD : ∀ l z, WideAt.IsKeyLit l → D.atKey l z = (match S l with | some x => .lit x | none => z)) (hm : Maps.IsMap D) {kl x : Lit} (hk : WideAt.IsKeyLit kl)
    (h : w'.ownsMap P kt (plainElem P et) b cnt (D.put kl (.lit x))) : MpL P kt et b cnt (updL S kl x) w' := by
  refine ⟨_, h, fun l z hl => ?_⟩
  by_cases e : l = kl
  · subst e
    rw [updL_same, Maps.atKey_put_same hm hk]
  · rw [updL_other S e, Maps.atKey_put_other e]
    exact hD l z hl

/-- 'm[k] = v' in the walk. -/
theorem wpList_mp_put {ops : Array Oper} {rest : List Oper} {o : Oper} {a : Act} {Q : Exit → Act → World → Prop} (hg : o.guard = none) (m x v : Operand) (t : TypeId) (hop : o.op = Op.mapUpdate t m x v)
    (K : Maps.Keyed P kt) (ht : P.underlying t = some (.map kt et)) (hm : a.eval m = .map (some b)) (h : MpL P kt et b cnt S w) (hn : cnt < maxLen) (key val : Value) (kl l : Lit) (hx : a.eval x = key) (hv : a.eval v = val)
    (hkey : keyOf P kt key = some kl) (hval : plainElem (H := Unit) P et val = some (.lit l, []))
    (hK : ∀ w', MpL P kt et b (cnt + 1) (updL S kl l) w' → w.grownBy w' (some b) → wpList P ops Q rest (a.put o.dst undef) w') : wpList P ops Q (o :: rest) a w := by
  obtain ⟨D, h1, h2⟩ := h
  exact wpList_mapUpdate_own w hg m x v t hop kt et K ht (plainElem P et) b cnt D hm h1 hn key val kl hx hv hkey (.lit l) [] hval
    (fun w' ho hgr => hK w' (MpL.put_of h2 h1.isMap (K.key hkey) ho) hgr)
theorem plainElem_bool_inv {H : Type} {e : TypeId} (he : P.underlying e = some .bool) {v : Value} {z : DataW H × List MemPlace} (h : plainElem P e v = some z) : ∃ x, v = .bool x ∧ z = (.lit (.bool x), []) := by
  unfold plainElem at h
  rw [he] at h
  cases v <;> simp at h
  exact ⟨_, rfl, h.symm⟩
/-- 'm[k]' at integers. -/
theorem MpL.look_int {t : TypeId} {q : IntKind} (h : MpL P kt et b cnt S w) (K : Maps.Keyed P kt) (ht : P.underlying t = some (.map kt et)) (he : P.underlying et = some (.int q)) (hz : (zeroValue et).run P w = .ok (.int q 0) w)
    {key : Value} {kl : Lit} (hkey : keyOf P kt key = some kl) {c : Int} (hS : S kl = some (.int q c) ∨ (S kl = none ∧ c = 0)) : (Instr.lookup t (.map (some b)) key false).run P w = .ok (.int q c) w := by
  obtain ⟨D, h1, h2⟩ := h
  obtain ⟨c', hr, hat, -⟩ := h1.lookup_int K ht he hz hkey
  rw [h2 kl _ (K.key hkey)] at hat
  rcases hS with hS | ⟨hS, rfl⟩
  · rw [hS] at hat
    simp at hat
    rw [hr, hat]
  · rw [hS] at hat
    simp at hat
    rw [hr, ← hat]
/-- 'm[k]' at booleans. -/
theorem MpL.look_bool {t : TypeId} (h : MpL P kt et b cnt S w) (K : Maps.Keyed P kt) (ht : P.underlying t = some (.map kt et)) (he : P.underlying et = some .bool) (hz : (zeroValue et).run P w = .ok (.bool false) w)
    {key : Value} {kl : Lit} (hkey : keyOf P kt key = some kl) {c : Bool} (hS : S kl = some (.bool c) ∨ (S kl = none ∧ c = false)) : (Instr.lookup t (.map (some b)) key false).run P w = .ok (.bool c) w := by
  obtain ⟨D, h1, h2⟩ := h
  obtain ⟨v, ps, hr, hv⟩ := h1.lookup K ht hz (plainElem_bool he false) hkey
  obtain ⟨x, rfl, hx⟩ := plainElem_bool_inv he hv
  have hat := congrArg Prod.fst hx
  simp only at hat
  rw [h2 kl _ (K.key hkey)] at hat
  rcases hS with hS | ⟨hS, rfl⟩
  · rw [hS] at hat
    simp at hat
    rw [hr, hat]
  · rw [hS] at hat
    simp at hat
    rw [hr, ← hat]
end
theorem below_grown' {B b : Nat} {w w' : World} (h : w.grownBy w' (some b)) (hB : B ≤ b) (hs : B ≤ w.heap.size) : Below B w w' :=
  ⟨h.os, h.tape, h.output, h.size, fun k hk => h.block k (by omega) (fun e => by have := Option.some.inj e; omega)⟩
theorem kb_grown {b : Nat} {w w' : World} (h : w.grownBy w' (some b)) : Kb (some b) w w' := ⟨h.os, h.tape, h.output, h.size, fun k hk hne => h.block k hk hne⟩
end Go.Sx

/-
  A range over a function whose iterator keeps a variable of its own in a block made ahead of the range; the rounds may write what they like but that block (appends in place to rows made in the rounds, too).
-/
namespace Go.Sx
open Go.RowKit

variable {P : Program}

/-- Stable under new blocks, under a turn of block nb, and under a turn of a block at or beyond B that holds no cells. -/
structure AbideT (B nb : Nat) (J : World → Prop) : Prop where
  kb : ∀ W W', J W → Kb (some nb) W W' → J W'
  put : ∀ W W' l, J W → B ≤ l → Same l W W' → J W'
theorem AbideT.ext {B nb : Nat} {J : World → Prop} (h : AbideT B nb J) : ∀ W W', J W → Ext W W' → J W' := fun W W' j x => h.kb W W' j (x.kb _)
theorem AbideT.and {B nb : Nat} {J K : World → Prop} (h : AbideT B nb J) (k : AbideT B nb K) : AbideT B nb (fun W => J W ∧ K W) :=
  ⟨fun W W' ⟨a, b⟩ e => ⟨h.kb W W' a e, k.kb W W' b e⟩, fun W W' l ⟨a, b⟩ hl e => ⟨h.put W W' l a hl e, k.put W W' l b hl e⟩⟩
theorem AbideT.pure {B nb : Nat} (p : Prop) : AbideT B nb (fun _ => p) := ⟨fun _ _ a _ => a, fun _ _ _ a _ _ => a⟩
theorem AbideT.exi {B nb : Nat} {β : Type} {J : β → World → Prop} (h : ∀ x, AbideT B nb (J x)) : AbideT B nb (fun W => ∃ x, J x W) :=
  ⟨fun W W' ⟨x, a⟩ e => ⟨x, (h x).kb W W' a e⟩, fun W W' l ⟨x, a⟩ hl e => ⟨x, (h x).put W W' l a hl e⟩⟩
theorem OwnR.stays {α : Type} {w w' : World} {B : Nat} {e : TypeId} {sz : Nat} {enc : α → List Value} {v : Value} {xs : List α} (h : OwnR w B e sz enc v xs) (hk : ∀ b, v.ownBlock = some b → w'.heap[b]? = w.heap[b]?) : OwnR w' B e sz enc v xs := by
  obtain ⟨h1, h2⟩ := h
  exact ⟨h1, h2.imp id fun ⟨k, cap, cur, a, b, c, d⟩ => ⟨k, cap, cur, a, b, (hk k (by rw [a]; rfl)).trans c, d⟩⟩
theorem AbideT.own {B nb B' : Nat} (hn : nb < B') {α : Type} {e : TypeId} {sz : Nat} {enc : α → List Value} {v : Value} {xs : List α} : AbideT B nb (fun W => OwnR W B' e sz enc v xs) :=
  ⟨fun _ _ h k => OwnR.stays h (fun b hb => k.kept b (World.ownsRow.lt h b hb).2 (fun e => by have h1 := (World.ownsRow.lt h b hb).1; have := Option.some.inj e; omega)), fun _ _ _ h _ k => k.own h⟩
theorem AbideT.boxed {B nb b : Nat} {t : TypeId} {v : Value} (hn : b ≠ nb) : AbideT B nb (fun W => Boxed W b t v) :=
  ⟨fun _ _ h k => k.at h hn, fun _ _ _ h _ k => k.boxed h⟩
theorem AbideT.mpl {B nb b cnt : Nat} {kt et : TypeId} {S : Lit → Option Lit} (hn : b ≠ nb) (hb : b < B) : AbideT B nb (fun W => MpL P kt et b cnt S W) :=
  ⟨fun _ _ h k => h.kept (k.kept b h.lt (fun e => hn (Option.some.inj e))), fun _ _ l h hl k => h.kept (by obtain ⟨o, o', h1, h3, h4, rfl⟩ := k; exact World.putObj_heap_other (by omega))⟩

/-- All that W3 held stays but blocks g and nb. -/
structure Kx (g nb : Nat) (w w' : World) : Prop where
  os : w'.os = w.os
  tape : w'.tape = w.tape
  output : w'.output = w.output
  size : w.heap.size ≤ w'.heap.size
  kept : ∀ k, k < w.heap.size → k ≠ g → k ≠ nb → w'.heap[k]? = w.heap[k]?
theorem Kx.refl (g nb : Nat) (w : World) : Kx g nb w w := ⟨rfl, rfl, rfl, Nat.le_refl _, fun _ _ _ _ => rfl⟩
theorem Kx.at {g nb : Nat} {w w' : World} (h : Kx g nb w w') {k : Nat} {o : Obj} (hk : w.heap[k]? = some o) (h1 : k ≠ g) (h2 : k ≠ nb) : w'.heap[k]? = some o :=
  (h.kept k (Array.getElem?_eq_some_iff.1 hk).1 h1 h2).trans hk
theorem Kx.nb {g nb : Nat} {w a b : World} (h : Kx g nb w a) (k : Kb (some nb) a b) : Kx g nb w b :=
  ⟨k.os.trans h.os, k.tape.trans h.tape, k.output.trans h.output, Nat.le_trans h.size k.size, fun i h1 h2 h3 => (k.kept i (Nat.lt_of_lt_of_le h1 h.size) (fun e => h3 (Option.some.inj e))).trans (h.kept i h1 h2 h3)⟩
theorem Kx.ext {g nb : Nat} {w a b : World} (h : Kx g nb w a) (k : Ext a b) : Kx g nb w b := h.nb (k.kb _)
theorem Kx.g {g nb : Nat} {w a b : World} (h : Kx g nb w a) (k : Kb (some g) a b) : Kx g nb w b :=
  ⟨k.os.trans h.os, k.tape.trans h.tape, k.output.trans h.output, Nat.le_trans h.size k.size, fun i h1 h2 h3 => (k.kept i (Nat.lt_of_lt_of_le h1 h.size) (fun e => h2 (Option.some.inj e))).trans (h.kept i h1 h2 h3)⟩
/-- A turn of what lies beyond w. -/
theorem Kx.on {g nb : Nat} {w a b : World} {B : Nat} (h : Kx g nb w a) (k : Below B a b) (hB : w.heap.size ≤ B) : Kx g nb w b :=
  ⟨k.os.trans h.os, k.tape.trans h.tape, k.output.trans h.output, Nat.le_trans h.size k.size, fun i h1 h2 h3 => (k.block i (Nat.lt_of_lt_of_le h1 hB)).trans (h.kept i h1 h2 h3)⟩
theorem Kx.put {g nb l : Nat} {w a b : World} (h : Kx g nb w a) (hl : w.heap.size ≤ l) (k : Same l a b) : Kx g nb w b := by
  obtain ⟨o, o', h1, h3, h4, rfl⟩ := k
  exact ⟨h.os, h.tape, h.output, by simpa using h.size, fun i hi h1 h2 => (World.putObj_heap_other (by omega)).trans (h.kept i hi h1 h2)⟩
theorem Kx.below {g nb C : Nat} {w a : World} (h : Kx g nb w a) (h1 : C ≤ w.heap.size) (h2 : C ≤ g) (h3 : C ≤ nb) : Below C w a := ⟨h.os, h.tape, h.output, h.size, fun i hi => h.kept i (by omega) (by omega) (by omega)⟩
theorem AbideT.kx {B g nb : Nat} {w : World} (h : w.heap.size ≤ B) : AbideT B nb (fun W => Kx g nb w W) := ⟨fun _ _ j k => j.nb k, fun _ _ _ j hl k => j.put (by omega) k⟩
/-- Block nb stays. -/
def Stay (nb : Nat) (W W' : World) : Prop := W'.heap[nb]? = W.heap[nb]?

/-- The contract of an iterator value that keeps its state in block nb, of which Own says what lies there at the start. -/
def IterT {α : Type} (P : Program) (gf : Nat) (lb : Array Value) (encs : α → Array Value) (xs : List α) (Need : World → Prop) (nb : Nat) (Own : World → Prop) : Prop :=
  ∀ (l : Nat) (J : Nat → World → Prop) (Jx : World → Prop) (W : World),
    (∀ k A B, J k A → Kb (some nb) A B → J k B) → (∀ A B, Jx A → Kb (some nb) A B → Jx B) → (∀ k W', J k W' → Need W') → nb < W.heap.size →
    (∀ k W1 (hk : k < xs.length), J k W1 → YieldAt Fence.wide 0 P l (encs xs[k]) W1 fun e W' =>
      Stay nb W1 W' ∧ ((e = .returned (.bool true) ∧ J (k + 1) W') ∨ (e = .returned (.bool false) ∧ Jx W'))) →
    J 0 W → Own W → CallsIn Fence.wide 0 P gf (#[.func (.yield l) #[] #[]] ++ lb) W fun e W' => (∃ v, e = .returned v) ∧ (J xs.length W' ∨ Jx W')

/-- How the body of a round may be left. -/
def postT (B nb : Nat) (I : Nat → World → Prop) (Ix : Code → World → Prop) (k : Nat) (W : World) : Exit → Act → World → Prop
  | .normal, _, W' => (KeepsFrom B W W' ∧ Stay nb W W') ∧ I (k + 1) W'
  | .ret, _, W' => (KeepsFrom B W W' ∧ Stay nb W W') ∧ Ix .ret W'
  | .exit id, _, W' => (KeepsFrom B W W' ∧ Stay nb W W') ∧ Ix (.exit id) W'
  | .goto t, _, W' => (KeepsFrom B W W' ∧ Stay nb W W') ∧ Ix (.goto t) W'
  | .panic _, _, _ => False
  | .outgrown, _, _ => False

theorem wpIn_rangeT {α : Type} {g : Operand} {ps : Array Tmp} {assign body : Code} {Q : Exit → Act → World → Prop} {a : Act} {w : World} {gf : Nat} {lb : Array Value} {encs : α → Array Value} {xs : List α} {Need : World → Prop} {nb : Nat} {Own : World → Prop}
    (hg : a.eval g = .func (.func gf) #[] lb) (eg : ∀ args w, (callFunc gf args).run P w = .ok (.enter gf args) w) (hit : IterT P gf lb encs xs Need nb Own) (hps : ∀ x, (encs x).size = ps.size)
    (I : Nat → World → Prop) (Ix : Code → World → Prop) (hnb : nb < w.heap.size) (hOwn : ∀ W, W.heap[nb]? = w.heap[nb]? → Own W) (hI : ∀ k, AbideT w.heap.size nb (I k)) (hIx : ∀ c, AbideT w.heap.size nb (Ix c)) (hN : ∀ k W, I k W → Need W) (h0 : I 0 w)
    (hround : ∀ l k W (hk : k < xs.length), I k W → w.heap.size ≤ l → l < W.heap.size →
      assign.wpIn (Fence.wide.inRound l) 0 P (Exit.then (fun a1 W1 => (KeepsFrom w.heap.size W W1 ∧ Stay nb W W1) ∧ ∀ W2, Same l W1 W2 → body.wpIn (Fence.wide.inRound l) 0 P (postT w.heap.size nb I Ix k W2) a1 W2) (fun _ _ _ => False))
        { tmps := (ps.zip (encs xs[k])).foldl (fun t (p, v) => t.setIfInBounds p v) a.tmps, defers := [] } W)
    (hdone : ∀ D W, w.heap.size ≤ D → I xs.length W → W.heap[D]? = some (.deferred (some [])) → Q .normal { a with defers := { target := .collected D, args := #[] } :: a.defers } W)
    (hstop : ∀ D c W, w.heap.size ≤ D → Ix c W → W.heap[D]? = some (.deferred (some [])) → c.wpIn Fence.wide 0 P Q { a with defers := { target := .collected D, args := #[] } :: a.defers } W) :
    (Code.rangeFunc g ps assign body).wpIn Fence.wide 0 P Q a w := by
  refine wpIn_rangeFunc ?_
  intro fn hfn
  obtain ⟨rec, hrec⟩ : ∃ rec : LoopState → Option Code → Loop, rec = fun st pe => { state := st, pending := pe, fn, tmps := a.tmps, params := ps, assign, body, defers := w.heap.size } := ⟨_, rfl⟩
  obtain ⟨W1, hW1⟩ : ∃ W1, (w.alloc (.deferred (some []))).alloc (.loop (rec .ready none)) = W1 := ⟨_, rfl⟩
  have hL1 : W1.heap[w.heap.size + 1]? = some (.loop (rec .ready none)) := by
    rw [← hW1]; have := World.alloc_heap_new (w.alloc (.deferred (some []))) (.loop (rec .ready none)); rwa [World.size_alloc] at this
  have hK1 : W1.heap[w.heap.size]? = some (.deferred (some [])) := by
    rw [← hW1]; exact (Below.heap_alloc _ _ _ (by simp)).trans (World.alloc_heap_new w _)
  have hx1 : Ext w W1 := by rw [← hW1]; exact ((Ext.refl w).alloc _).alloc _
  have hI1 : I 0 W1 := (hI 0).ext _ _ h0 hx1
  have samePut : ∀ {A : World} {r : Loop} (r' : Loop), A.heap[w.heap.size + 1]? = some (.loop r) → Same (w.heap.size + 1) A (A.putObj (w.heap.size + 1) (.loop r')) :=
    fun r' h => ⟨_, _, h, rfl, rfl, rfl⟩
  refine ⟨w.heap.size + 1, [{ target := .collected w.heap.size, args := #[] }], W1, { target := .fn (.func gf) lb, args := #[.func (.yield (w.heap.size + 1)) #[] #[]] }, W1, gf,
    #[.func (.yield (w.heap.size + 1)) #[] #[]] ++ lb, W1, ?_, ?_, fun _ _ => trivial, ?_, fun h => absurd h (by simp [Fence.wide]), ?_⟩
  · rw [← hW1, hrec]; exact run_enterLoop_outer _ _ _ _ _
  · simp only [resolve, hg]
    simp [go_sem]
  · simp [invoke, go_sem, eg]
  · refine (hit (w.heap.size + 1)
      (fun k W => I k W ∧ W.heap[w.heap.size + 1]? = some (.loop (rec .ready none)) ∧ W.heap[w.heap.size]? = some (.deferred (some [])))
      (fun W => ∃ c, Ix c W ∧ W.heap[w.heap.size + 1]? = some (.loop (rec .done (some c))) ∧ W.heap[w.heap.size]? = some (.deferred (some [])))
      W1
      (fun k W W' ⟨h1, h2, h3⟩ hx => ⟨(hI k).kb _ _ h1 hx, hx.at h2 (by omega), hx.at h3 (by omega)⟩)
      (fun W W' ⟨c, h1, h2, h3⟩ hx => ⟨c, (hIx c).kb _ _ h1 hx, hx.at h2 (by omega), hx.at h3 (by omega)⟩)
      (fun k W h => hN k W h.1) (Nat.lt_of_lt_of_le hnb hx1.size)
      ?_ ⟨hI1, hL1, hK1⟩ (hOwn _ (hx1.block nb hnb))).mono ?_
    · rintro k W hk ⟨hi, hl, hkd⟩
      have hlt : w.heap.size + 1 < W.heap.size := (Array.getElem?_eq_some_iff.1 hl).1
      have hy := run_yield (P := P) (args := encs xs[k]) hl (by rw [hrec]; exact hps _)
      rw [hrec] at hy
      refine ⟨fn, _, assign, body, hy, roundIn_of_wpIn hfn (wpIn_mono (hround _ k W hk hi (by omega) hlt) ?_)⟩
      rintro e a1 W2 hp
      cases e with
      | normal =>
        obtain ⟨⟨hk1, hs1⟩, hb⟩ := hp
        have hl1 := hk1.same _ _ (by omega) hl rfl
        have hd1 := hk1.same _ _ (by omega) hkd rfl
        have hlt1 := (Array.getElem?_eq_some_iff.1 hl1).1
        refine ⟨_, run_beginRound hl1 (by rw [hrec]), ?_⟩
        have hl2 : (W2.putObj (w.heap.size + 1) (.loop { rec .ready none with state := .busy })).heap[w.heap.size + 1]? = some (.loop { rec .ready none with state := .busy }) := World.putObj_heap_same hlt1
        have hd2 : (W2.putObj (w.heap.size + 1) (.loop { rec .ready none with state := .busy })).heap[w.heap.size]? = some (.deferred (some [])) := (World.putObj_heap_other (by omega)).trans hd1
        refine wpIn_mono (hb _ (samePut _ hl1)) ?_
        have fin : ∀ (jump : Option Code) (W3 : World), (KeepsFrom w.heap.size (W2.putObj (w.heap.size + 1) (.loop { rec .ready none with state := .busy })) W3 ∧ Stay nb (W2.putObj (w.heap.size + 1) (.loop { rec .ready none with state := .busy })) W3) →
            (Instr.endRound (w.heap.size + 1) jump).run P W3 = .ok (.bool jump.isNone) (W3.putObj (w.heap.size + 1) (.loop (rec (if jump.isNone then .ready else .done) jump))) ∧
            Stay nb W (W3.putObj (w.heap.size + 1) (.loop (rec (if jump.isNone then .ready else .done) jump))) ∧
            W3.heap[w.heap.size + 1]? = some (.loop { rec .ready none with state := .busy }) ∧
            (W3.putObj (w.heap.size + 1) (.loop (rec (if jump.isNone then .ready else .done) jump))).heap[w.heap.size + 1]? = some (.loop (rec (if jump.isNone then .ready else .done) jump)) ∧
            (W3.putObj (w.heap.size + 1) (.loop (rec (if jump.isNone then .ready else .done) jump))).heap[w.heap.size]? = some (.deferred (some [])) := fun jump W3 ⟨hk3, hs3⟩ => by
          have hl3 := hk3.same _ _ (by omega) hl2 rfl
          have := run_endRound (P := P) jump hl3
          rw [hrec] at this ⊢
          exact ⟨this, by unfold Stay at *; rw [World.putObj_heap_other (by omega), hs3, World.putObj_heap_other (by omega), hs1], by rw [hrec] at hl3; exact hl3, World.putObj_heap_same (Array.getElem?_eq_some_iff.1 hl3).1, (World.putObj_heap_other (by omega)).trans (hk3.same _ _ (by omega) hd2 rfl)⟩
        rintro e a3 W3 hp
        cases e with
        | normal =>
          obtain ⟨hk3, hi3⟩ := hp
          obtain ⟨hr, hst, hl3, hl4, hk4⟩ := fin none W3 hk3
          exact ⟨_, _, hr, hst, .inl ⟨rfl, (hI _).put _ _ _ hi3 (by omega) (samePut _ hl3), hl4, hk4⟩⟩
        | ret =>
          obtain ⟨hk3, hi3⟩ := hp
          obtain ⟨hr, hst, hl3, hl4, hk4⟩ := fin (some .ret) W3 hk3
          exact ⟨_, _, hr, hst, .inr ⟨rfl, .ret, (hIx _).put _ _ _ hi3 (by omega) (samePut _ hl3), hl4, hk4⟩⟩
        | exit id =>
          obtain ⟨hk3, hi3⟩ := hp
          obtain ⟨hr, hst, hl3, hl4, hk4⟩ := fin (some (.exit id)) W3 hk3
          exact ⟨_, _, hr, hst, .inr ⟨rfl, .exit id, (hIx _).put _ _ _ hi3 (by omega) (samePut _ hl3), hl4, hk4⟩⟩
        | goto t =>
          obtain ⟨hk3, hi3⟩ := hp
          obtain ⟨hr, hst, hl3, hl4, hk4⟩ := fin (some (.goto t)) W3 hk3
          exact ⟨_, _, hr, hst, .inr ⟨rfl, .goto t, (hIx _).put _ _ _ hi3 (by omega) (samePut _ hl3), hl4, hk4⟩⟩
        | panic ch => exact hp.elim
        | outgrown => exact hp.elim
      | ret => exact hp.elim
      | exit id => exact hp.elim
      | goto t => exact hp.elim
      | panic ch => exact hp.elim
      | outgrown => exact hp.elim
    · rintro e W2 ⟨⟨v, rfl⟩, (⟨hi, hl, hk⟩ | ⟨c, hi, hl, hk⟩)⟩
      · exact ⟨none, _, by have := run_endLoop (P := P) hl (by rw [hrec]; simp); rw [hrec] at this; exact this, hdone _ _ (Nat.le_refl _) ((hI _).put _ _ _ hi (by omega) (samePut _ hl)) ((World.putObj_heap_other (by omega)).trans hk)⟩
      · exact ⟨some c, _, by have := run_endLoop (P := P) hl (by rw [hrec]; simp); rw [hrec] at this; exact this, hstop _ c _ (Nat.le_refl _) ((hIx c).put _ _ _ hi (by omega) (samePut _ hl)) ((World.putObj_heap_other (by omega)).trans hk)⟩


/-- The range may be left by a break: both ways go on from E. -/
theorem wpIn_rangeT_brk {α : Type} {g : Operand} {ps : Array Tmp} {assign body : Code} {id : Nat} {Q : Exit → Act → World → Prop} {a : Act} {w : World} {gf : Nat} {lb : Array Value} {encs : α → Array Value} {xs : List α} {Need : World → Prop} {nb : Nat} {Own : World → Prop}
    (hg : a.eval g = .func (.func gf) #[] lb) (eg : ∀ args w, (callFunc gf args).run P w = .ok (.enter gf args) w) (hit : IterT P gf lb encs xs Need nb Own) (hps : ∀ x, (encs x).size = ps.size)
    (I : Nat → World → Prop) (E : World → Prop) (hnb : nb < w.heap.size) (hOwn : ∀ W, W.heap[nb]? = w.heap[nb]? → Own W) (hI : ∀ k, AbideT w.heap.size nb (I k)) (hE : AbideT w.heap.size nb E) (hN : ∀ k W, I k W → Need W) (hIE : ∀ W, I xs.length W → E W) (h0 : I 0 w)
    (hround : ∀ l k W (hk : k < xs.length), I k W → w.heap.size ≤ l → l < W.heap.size →
      assign.wpIn (Fence.wide.inRound l) 0 P (Exit.then (fun a1 W1 => (KeepsFrom w.heap.size W W1 ∧ Stay nb W W1) ∧ ∀ W2, Same l W1 W2 → body.wpIn (Fence.wide.inRound l) 0 P (postT w.heap.size nb I (fun c W => c = .exit id ∧ E W) k W2) a1 W2) (fun _ _ _ => False))
        { tmps := (ps.zip (encs xs[k])).foldl (fun t (p, v) => t.setIfInBounds p v) a.tmps, defers := [] } W)
    (hend : ∀ D W, w.heap.size ≤ D → E W → W.heap[D]? = some (.deferred (some [])) → Q .normal { a with defers := { target := .collected D, args := #[] } :: a.defers } W) :
    (Code.rangeFunc g ps assign body).wpIn Fence.wide 0 P (Exit.inBlock id Q) a w := by
  refine wpIn_rangeT hg eg hit hps I (fun c W => c = .exit id ∧ E W) hnb hOwn hI (fun c => (AbideT.pure _).and hE) hN h0 hround ?_ ?_
  · intro D W hD hi hdef
    exact hend D W hD (hIE W hi) hdef
  · rintro D c W hD ⟨rfl, he⟩ hdef
    refine wpIn_exit ?_
    show Exit.inBlock id Q (.exit id) _ _
    unfold Exit.inBlock
    simp only [if_true]
    exact hend D W hD he hdef

/-- A function that returns behind three ranges. -/
theorem bodyPostM_ret3 {fn : Func} {R : Ending → World → Prop} {a : Act} {W : World} {D1 D2 D3 : Nat} {v : Value} (hd : a.defers = [{ target := .collected D3, args := #[] }, { target := .collected D2, args := #[] }, { target := .collected D1, args := #[] }])
    (h3 : W.heap[D3]? = some (.deferred (some []))) (h2 : W.heap[D2]? = some (.deferred (some []))) (h1 : W.heap[D1]? = some (.deferred (some []))) (n32 : D2 ≠ D3) (n31 : D1 ≠ D3) (n21 : D1 ≠ D2)
    (hr : ∀ A B C, Same D3 W A → Same D2 A B → Same D1 B C → (results fn a.tmps).run P C = .ok v C) (hR : ∀ A B C, Same D3 W A → Same D2 A B → Same D1 B C → R (.returned v) C) : bodyPostM Fence.wide 0 P fn R .ret a W := by
  show LeavesInM Fence.wide 0 P fn a.tmps R a.defers .returning W
  rw [hd]
  have s3 : Same D3 W (W.putObj D3 (.deferred none)) := ⟨_, _, h3, rfl, rfl, rfl⟩
  have k2 : (W.putObj D3 (.deferred none)).heap[D2]? = some (.deferred (some [])) := (World.putObj_heap_other n32).trans h2
  have s2 : Same D2 (W.putObj D3 (.deferred none)) ((W.putObj D3 (.deferred none)).putObj D2 (.deferred none)) := ⟨_, _, k2, rfl, rfl, rfl⟩
  have k1 : ((W.putObj D3 (.deferred none)).putObj D2 (.deferred none)).heap[D1]? = some (.deferred (some [])) := (World.putObj_heap_other n21).trans ((World.putObj_heap_other n31).trans h1)
  have s1 : Same D1 ((W.putObj D3 (.deferred none)).putObj D2 (.deferred none)) (((W.putObj D3 (.deferred none)).putObj D2 (.deferred none)).putObj D1 (.deferred none)) := ⟨_, _, k1, rfl, rfl, rfl⟩
  refine ⟨by simp, .inl ⟨D3, _, rfl, run_takeDeferred h3, ?_⟩⟩
  refine ⟨by simp, .inl ⟨D2, _, rfl, run_takeDeferred k2, ?_⟩⟩
  refine ⟨by simp, .inl ⟨D1, _, rfl, run_takeDeferred k1, ?_⟩⟩
  exact ⟨_, hr _ _ _ s3 s2 s1, hR _ _ _ s3 s2 s1⟩
end Go.Sx
