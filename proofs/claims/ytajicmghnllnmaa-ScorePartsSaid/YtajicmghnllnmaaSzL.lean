/-
  Laws on arrays of six, on blocks that are known whole, and what the laid tables give.
-/
import Derived.Test.YtajicmghnllnmaaKb
import Derived.Test.YtajicmghnllnmaaSzM
import Derived.Lib.LaidTab
import Derived.Deep.MidRow
import Derived.BigQuiet
set_option linter.unusedVariables false
namespace Go.Sx.Sz
open Go.RowKit Go.ChangeShapes Go.WideShapes

def V6.val (v : V6) : Value := .agg #[.int .i64 v.a, .int .i64 v.b, .int .i64 v.c, .int .i64 v.d, .int .i64 v.e, .int .i64 v.f]
def V6.cells (v : V6) : Array Value := #[.int .i64 v.a, .int .i64 v.b, .int .i64 v.c, .int .i64 v.d, .int .i64 v.e, .int .i64 v.f]
def V6.list (v : V6) : List Value := [.int .i64 v.a, .int .i64 v.b, .int .i64 v.c, .int .i64 v.d, .int .i64 v.e, .int .i64 v.f]
theorem V6.cells_at (v : V6) {k : Nat} (h : k < 6) : v.cells[k]? = some (.int .i64 (v.get k)) := by
  rcases lt6 h with rfl | rfl | rfl | rfl | rfl | rfl <;> rfl
theorem V6.list_at (v : V6) {k : Nat} (h : k < 6) : v.list[k]? = some (.int .i64 (v.get k)) := by
  rcases lt6 h with rfl | rfl | rfl | rfl | rfl | rfl <;> rfl
theorem V6.list_getD (v : V6) {k : Nat} (h : k < 6) : v.list.getD k undef = .int .i64 (v.get k) := by
  rcases lt6 h with rfl | rfl | rfl | rfl | rfl | rfl <;> rfl
/-- One exponent written. -/
def V6.put (v : V6) (k : Nat) (x : Int) : V6 := V6.of fun j => if j = k then x else v.get j
theorem V6.cells_put (v : V6) {k : Nat} (h : k < 6) (x : Int) : v.cells.setIfInBounds k (.int .i64 x) = (v.put k x).cells := by
  rcases lt6 h with rfl | rfl | rfl | rfl | rfl | rfl <;> rfl
theorem V6.put_put (v : V6) {k : Nat} (h : k < 6) (x y : Int) : (v.put k x).put k y = v.put k y := by
  rcases lt6 h with rfl | rfl | rfl | rfl | rfl | rfl <;> rfl
theorem V6.put_same (v : V6) {k : Nat} (h : k < 6) : v.put k (v.get k) = v := by
  rcases lt6 h with rfl | rfl | rfl | rfl | rfl | rfl <;> rfl
theorem V6.put_at (v : V6) {k : Nat} (h : k < 6) (x : Int) : (v.put k x).get k = x := by
  rcases lt6 h with rfl | rfl | rfl | rfl | rfl | rfl <;> rfl
theorem V6.put_get (v : V6) {k : Nat} (h : k < 6) (x : Int) {j : Nat} (hj : j < 6) : (v.put k x).get j = if j = k then x else v.get j := V6.get_of _ hj

/-- An element of an array of six integers by value. -/
theorem run_index_v6 {P : Program} {t e : TypeId} (h : P.underlying t = some (.array 6 e)) (he : P.underlying e = some (.int .i64)) (hs : (P.info? e).map (·.size) = some 1) (v : V6) {k : Nat} (hk : k < 6) (w : World) :
    (Instr.index t (.agg #[.int .i64 v.a, .int .i64 v.b, .int .i64 v.c, .int .i64 v.d, .int .i64 v.e, .int .i64 v.f]) (.int .i64 (k : Int))).run P w = .ok (.int .i64 (v.get k)) w := by
  obtain ⟨i, hi, hz⟩ := Option.map_eq_some_iff.1 hs
  have h6 : ((k : Int) < 6) := by omega
  rcases lt6 hk with rfl | rfl | rfl | rfl | rfl | rfl <;>
    simp [Instr.index, run_underlying h, run_underlying he, asIntOf, part, isAgg, sizeOf, typeInfo, hi, hz, V6.get]

/-- A block's cells behind one store. -/
theorem block_set {w : World} {g : Nat} {cs : Array Value} {t : TypeId} (hg : w.heap[g]? = some (.cells cs t (0, 0))) (i : Nat) (v : Value) :
    (w.setCell ⟨g, i, none⟩ v).heap[g]? = some (.cells (cs.setIfInBounds i v) t (0, 0)) := heap_setCell_same w g i cs t v hg
theorem block_ne {w : World} {g k : Nat} {o : Obj} (h : w.heap[k]? = some o) (i : Nat) (v : Value) (hk : k ≠ g) : (w.setCell ⟨g, i, none⟩ v).heap[k]? = some o :=
  (Below.heap_setCell w ⟨g, i, none⟩ v k hk).trans h
theorem block_alloc {w : World} {k : Nat} {o : Obj} (h : w.heap[k]? = some o) (ob : Obj) : (w.alloc ob).heap[k]? = some o := by
  have hk : k < w.heap.size := (Array.getElem?_eq_some_iff.1 h).1
  rw [Below.heap_alloc w ob k hk]; exact h
theorem block_new (w : World) (ob : Obj) : (w.alloc ob).heap[w.heap.size]? = some ob := by
  show (w.heap.push ob)[w.heap.size]? = _
  simp
theorem block_ext {w w' : World} (h : Ext w w') {k : Nat} {o : Obj} (hk : w.heap[k]? = some o) : w'.heap[k]? = some o := by
  rw [h.block k (Array.getElem?_eq_some_iff.1 hk).1]; exact hk
theorem block_lt {w : World} {k : Nat} {o : Obj} (hk : w.heap[k]? = some o) : k < w.heap.size := (Array.getElem?_eq_some_iff.1 hk).1
theorem block_cell {w : World} {g : Nat} {cs : Array Value} {t : TypeId} {fr : Nat × Nat} (h : w.heap[g]? = some (.cells cs t fr)) (j : Nat) (u : Value) (hu : cs[j]? = some u) : w.cell? ⟨g, j, none⟩ = some u := by
  unfold World.cell?
  simp only [h]
  simpa using hu
theorem block_free {w : World} {g : Nat} {cs : Array Value} {t : TypeId} (h : w.heap[g]? = some (.cells cs t (0, 0))) (j : Nat) : w.frozen? ⟨g, j, none⟩ = false := by
  unfold World.frozen?
  simp [h]
/-- A block known whole: two rules for the walk. -/
theorem block_rules {w : World} {g : Nat} {cs : Array Value} {t : TypeId} (h : w.heap[g]? = some (.cells cs t (0, 0))) : (∀ j, w.cell? ⟨g, j, none⟩ = cs[j]?) ∧ (∀ j, w.frozen? ⟨g, j, none⟩ = false) :=
  ⟨fun j => by unfold World.cell?; simp [h], fun j => block_free h j⟩
theorem block_at {w : World} {n : Nat} (h : w.heap.size = n) (ob : Obj) : (w.alloc ob).heap[n]? = some ob := by subst h; exact block_new w ob
theorem block_range {w : World} {g : Nat} {cs : Array Value} {t : TypeId} {fr : Nat × Nat} (h : w.heap[g]? = some (.cells cs t fr)) : w.rangeAt g 0 cs.toList := fun j v hv => by
  rw [Nat.zero_add]; exact block_cell h j v (by simpa using hv)

/-- What was there is read in the later world as it was: two rules for the walk. -/
theorem _root_.Go.Sx.Ext.rules {W w1 : World} (hb : Ext W w1) : (∀ b o, b < W.heap.size → w1.cell? ⟨b, o, none⟩ = W.cell? ⟨b, o, none⟩) ∧ (∀ b o, b < W.heap.size → w1.frozen? ⟨b, o, none⟩ = W.frozen? ⟨b, o, none⟩) :=
  ⟨fun b o h => Below.cell hb (p := ⟨b, o, none⟩) h, fun b o h => Below.frozen hb (p := ⟨b, o, none⟩) h⟩

theorem _root_.Go.Sx.Ext.drewN {a w : World} (h : Ext a w) (n : Nat) : Ext a (w.drewN n) := h.trans (Ext.drawn w (w.drawn + n))

/-! ### The laid tables -/

theorem laid_var {P : Program} {W : World} : ∀ {laid : List (String × DataW Unit)} {ps : List MemPlace}, DataW.LaidVars P W laid ps → ∀ {n : String} {d : DataW Unit}, (n, d) ∈ laid →
    ∃ g t cs fuel p, P.globalNamed n = some g ∧ (P.globals[g]?).map (·.type) = some t ∧ W.var? P n = some cs ∧ DataW.trod (fun _ => ()) P W 0 (fun _ => true) false fuel t cs.toList = some (d, p)
  | x :: r, ps, h, n, d, hm => by
    obtain ⟨g, t, cs, fuel, p, q, h1, h2, h3, h4, h5, _⟩ := h
    rcases List.mem_cons.1 hm with rfl | hm
    · exact ⟨g, t, cs, fuel, p, h1, h2, h3, h4⟩
    · exact laid_var h5 hm

/-- An array of structs of two integers. -/
theorem cells_of_pairs {H : Type} {enc : TypeId × Value → H} {P : Program} {w : World} {base : Nat} {sp : Nat → Bool} {held : Bool} {fuel : Nat} {t e i : TypeId} {n : Nat} {k : IntKind} {cs : List Value} {zs : List (Int × Int)} {p : List MemPlace} {f0 f1 : Field}
    (ht : P.underlying t = some (.array n e)) (he : P.underlying e = some (.struct #[f0, f1])) (hf0 : f0.type = i ∧ f0.offset = 0) (hf1 : f1.type = i ∧ f1.offset = 1) (hi : P.underlying i = some (.int k)) (hci : P.cellsOf i = 1) (hce : P.cellsOf e = 2) (hct : P.cellsOf t = n * 2)
    (h : DataW.trod enc P w base sp held fuel t cs = some (.agg (zs.map fun z => .agg [.lit (.int k z.1), .lit (.int k z.2)]), p)) :
    ∀ j z, zs[j]? = some z → cs[j * 2]? = some (.int k z.1) ∧ cs[j * 2 + 1]? = some (.int k z.2) := by
  cases fuel with
  | zero => simp [DataW.trod] at h
  | succ fuel =>
    simp only [DataW.trod, ht, hce, hct] at h
    split at h
    · rename_i hl
      obtain ⟨xs, hm, hx⟩ := Option.map_eq_some_iff.1 h
      have hxs : xs.map (·.1) = zs.map fun z => (DataW.agg [.lit (.int k z.1), .lit (.int k z.2)] : DataW H) := by
        have := congrArg Prod.fst hx
        simpa using this
      have hxl : xs.length = n := by simpa using Lib.mapM_length hm
      have hzl : zs.length = n := by
        have := congrArg List.length hxs
        simp at this
        omega
      intro j z hz
      have hj : j < n := by rw [← hzl]; exact (List.getElem?_eq_some_iff.1 hz).1
      obtain ⟨b, hb, hf⟩ := Lib.mapM_at hm j j (by simp [hj])
      have h2 : (xs.map (·.1))[j]? = some b.1 := by simp [hb]
      rw [hxs] at h2
      simp only [List.getElem?_map, hz, Option.map_some, Option.some.injEq] at h2
      obtain ⟨y0, y1, m, hy, hlen, g0, g1⟩ := trod_struct2 he hf
      rw [hf0.1, hf0.2, hci] at g0
      rw [hf1.1, hf1.2, hci] at g1
      obtain ⟨n0, c0, rfl, _⟩ := DataW.trod_int hi g0
      obtain ⟨n1, c1, rfl, _⟩ := DataW.trod_int hi g1
      subst hy
      simp only [DataW.agg.injEq, List.cons.injEq, DataW.lit.injEq, Lit.int.injEq, true_and, and_true] at h2
      obtain ⟨rfl, rfl⟩ := h2
      have e0 := congrArg (·[0]?) c0
      have e1 := congrArg (·[0]?) c1
      simp [List.getElem?_drop] at e0 e1
      exact ⟨e0, e1⟩
    · cases h

/-- The table of the logarithms alone. -/
structure Gl (gl : Nat) (w : World) : Prop where
  los : ∀ i, i < 6 → w.cell? ⟨gl, i * 2, none⟩ = some (.int .i64 (logLo i))
  his : ∀ i, i < 6 → w.cell? ⟨gl, i * 2 + 1, none⟩ = some (.int .i64 (logHi i))
theorem Gl.ext {gl : Nat} {w w' : World} (h : Gl gl w) (x : Ext w w') : Gl gl w' :=
  ⟨fun i hi => x.cell (h.los i hi), fun i hi => x.cell (h.his i hi)⟩
theorem Gl.below {gl B : Nat} {w w' : World} (h : Gl gl w) (x : Below B w w') (h2 : gl < B) : Gl gl w' :=
  ⟨fun i hi => Below.cellc x h2 (h.los i hi), fun i hi => Below.cellc x h2 (h.his i hi)⟩
/-- What the walks read in the package's own tables. -/
structure Gv (gp gl : Nat) (w : World) : Prop where
  primes : ∀ i, i < 6 → w.cell? ⟨gp, i, none⟩ = some (.int .i64 (prime i))
  los : ∀ i, i < 6 → w.cell? ⟨gl, i * 2, none⟩ = some (.int .i64 (logLo i))
  his : ∀ i, i < 6 → w.cell? ⟨gl, i * 2 + 1, none⟩ = some (.int .i64 (logHi i))
theorem Gv.ext {gp gl : Nat} {w w' : World} (h : Gv gp gl w) (x : Ext w w') : Gv gp gl w' :=
  ⟨fun i hi => x.cell (h.primes i hi), fun i hi => x.cell (h.los i hi), fun i hi => x.cell (h.his i hi)⟩
theorem Gv.below {gp gl B : Nat} {w w' : World} (h : Gv gp gl w) (x : Below B w w') (h1 : gp < B) (h2 : gl < B) : Gv gp gl w' :=
  ⟨fun i hi => Below.cellc x h1 (h.primes i hi), fun i hi => Below.cellc x h2 (h.los i hi), fun i hi => Below.cellc x h2 (h.his i hi)⟩
def primeCells : List Value := [.int .i64 2, .int .i64 3, .int .i64 5, .int .i64 7, .int .i64 11, .int .i64 13]
def logCells : List Value := [.int .i64 1000000000, .int .i64 1000000000, .int .i64 1584962500, .int .i64 1584962501, .int .i64 2321928094, .int .i64 2321928095, .int .i64 2807354922, .int .i64 2807354923, .int .i64 3459431618, .int .i64 3459431619, .int .i64 3700439718, .int .i64 3700439719]
theorem Gv.primeRange {gp gl : Nat} {w : World} (h : Gv gp gl w) : w.rangeAt gp 0 primeCells := fun j v hv => by
  have hj : j < 6 := (List.getElem?_eq_some_iff.1 hv).1
  rw [Nat.zero_add]
  rcases lt6 hj with rfl | rfl | rfl | rfl | rfl | rfl <;> (cases hv; exact h.primes _ (by omega))
theorem Gv.logRange {gp gl : Nat} {w : World} (h : Gv gp gl w) : w.rangeAt gl 0 logCells := fun j v hv => by
  have hj : j < 12 := (List.getElem?_eq_some_iff.1 hv).1
  rw [Nat.zero_add]
  have : j = 0 ∨ j = 1 ∨ j = 2 ∨ j = 3 ∨ j = 4 ∨ j = 5 ∨ j = 6 ∨ j = 7 ∨ j = 8 ∨ j = 9 ∨ j = 10 ∨ j = 11 := by omega
  rcases this with rfl | rfl | rfl | rfl | rfl | rfl | rfl | rfl | rfl | rfl | rfl | rfl <;>
    (cases hv; first | exact h.los 0 (by omega) | exact h.his 0 (by omega) | exact h.los 1 (by omega) | exact h.his 1 (by omega) | exact h.los 2 (by omega) | exact h.his 2 (by omega) | exact h.los 3 (by omega) | exact h.his 3 (by omega) | exact h.los 4 (by omega) | exact h.his 4 (by omega) | exact h.los 5 (by omega) | exact h.his 5 (by omega))
theorem Gl.logRange {gl : Nat} {w : World} (h : Gl gl w) : w.rangeAt gl 0 logCells := fun j v hv => by
  have hj : j < 12 := (List.getElem?_eq_some_iff.1 hv).1
  rw [Nat.zero_add]
  have : j = 0 ∨ j = 1 ∨ j = 2 ∨ j = 3 ∨ j = 4 ∨ j = 5 ∨ j = 6 ∨ j = 7 ∨ j = 8 ∨ j = 9 ∨ j = 10 ∨ j = 11 := by omega
  rcases this with rfl | rfl | rfl | rfl | rfl | rfl | rfl | rfl | rfl | rfl | rfl | rfl <;>
    (cases hv; first | exact h.los 0 (by omega) | exact h.his 0 (by omega) | exact h.los 1 (by omega) | exact h.his 1 (by omega) | exact h.los 2 (by omega) | exact h.his 2 (by omega) | exact h.los 3 (by omega) | exact h.his 3 (by omega) | exact h.los 4 (by omega) | exact h.his 4 (by omega) | exact h.los 5 (by omega) | exact h.his 5 (by omega))

/-- An element of the logarithms' table. -/
theorem run_index_logs {P : Program} {t e : TypeId} {fs : Array Field} (h : P.underlying t = some (.array 6 e)) (he : P.underlying e = some (.struct fs)) (hs : (P.info? e).map (·.size) = some 2) {k : Nat} (hk : k < 6) (w : World) :
    (Instr.index t (.agg logCells.toArray) (.int .i64 (k : Int))).run P w = .ok (.agg #[.int .i64 (logLo k), .int .i64 (logHi k)]) w := by
  obtain ⟨i, hi, hz⟩ := Option.map_eq_some_iff.1 hs
  rcases lt6 hk with rfl | rfl | rfl | rfl | rfl | rfl <;>
    simp [Instr.index, run_underlying h, run_underlying he, asIntOf, part, isAgg, sizeOf, typeInfo, hi, hz, logCells, logLo, logHi]
theorem run_index_primes {P : Program} {t e : TypeId} (h : P.underlying t = some (.array 6 e)) (he : P.underlying e = some (.int .i64)) (hs : (P.info? e).map (·.size) = some 1) {k : Nat} (hk : k < 6) (w : World) :
    (Instr.index t (.agg primeCells.toArray) (.int .i64 (k : Int))).run P w = .ok (.int .i64 (prime k)) w := by
  obtain ⟨i, hi, hz⟩ := Option.map_eq_some_iff.1 hs
  rcases lt6 hk with rfl | rfl | rfl | rfl | rfl | rfl <;>
    simp [Instr.index, run_underlying h, run_underlying he, asIntOf, part, isAgg, sizeOf, typeInfo, hi, hz, primeCells, prime]
end Go.Sx.Sz
