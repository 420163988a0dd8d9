/-
  Walks of potential: the tree of parent steps (what lies where), plant's first region.
-/
import Derived.Test.YtdpegkkbhanjkaaDoorLibD
import Derived.Test.YtdpegkkbhanjkaaDoorLibP
import Derived.Test.YtdpegkkbhanjkaaDoorScF
import Derived.Test.YtdpegkkbhanjkaaDoorLibB
import Derived.Deep.DeepCutAuto
set_option linter.unusedVariables false
namespace Go.Proofs.YtdpegkkbhanjkaaDoor
open Go.RowKit Go.Sx Go.Sx.Sz Go.Sx.Sc Go.Sx.Po

def encSt (p : St) : List Value := [.int .i64 p.a, .int .i64 p.b, .int .i64 p.k]
def TrC (vs : Int) (vn vp vc : Value) (n u q : Nat) (vx : Value) : Array Value := #[.int .i64 vs, vn, vp, vc, .slice (some ⟨u, 0, none⟩) n n, .slice (some ⟨q, 0, none⟩) n n, vx]
/-- The tree in block g: its steps in block u, its products in block q. -/
structure TreeR (w : World) (g u q : Nat) (vs : Int) (vn vp vc : Value) (n : Nat) (F : Nat → St) (G : Nat → V6) (vx : Value) : Prop where
  tb : w.heap[g]? = some (.cells (TrC vs vn vp vc n u q vx) 71 (0, 0))
  up : Bk w u 35 encSt (rgL F n)
  pr : Bk w q 41 V6.list (rgL G n)
section
variable {w w' : World} {g u q : Nat} {vs : Int} {vn vp vc vx : Value} {n : Nat} {F : Nat → St} {G : Nat → V6}
theorem TreeR.ext (h : TreeR w g u q vs vn vp vc n F G vx) (x : Ext w w') : TreeR w' g u q vs vn vp vc n F G vx := ⟨block_ext x h.tb, h.up.ext x, h.pr.ext x⟩
theorem TreeR.ne (h : TreeR w g u q vs vn vp vc n F G vx) : u ≠ g ∧ q ≠ g ∧ u ≠ q :=
  ⟨h.up.ne_block h.tb (by decide), h.pr.ne_block h.tb (by decide), h.up.ne_of h.pr (by decide)⟩
theorem TreeR.kb (h : TreeR w g u q vs vn vp vc n F G vx) {r : Nat} (k : Kb (some r) w w') (h1 : g ≠ r) (h2 : u ≠ r) (h3 : q ≠ r) : TreeR w' g u q vs vn vp vc n F G vx := ⟨k.at h.tb h1, h.up.kb k h2, h.pr.kb k h3⟩
theorem TreeR.kept (h : TreeR w g u q vs vn vp vc n F G vx) (h1 : w'.heap[g]? = w.heap[g]?) (h2 : w'.heap[u]? = w.heap[u]?) (h3 : w'.heap[q]? = w.heap[q]?) : TreeR w' g u q vs vn vp vc n F G vx := by
  obtain ⟨a, ⟨cs, b, c⟩, ⟨ds, d, e⟩⟩ := h
  exact ⟨h1.trans a, ⟨cs, h2.trans b, c⟩, ⟨ds, h3.trans d, e⟩⟩
theorem TreeR.c4 (h : TreeR w g u q vs vn vp vc n F G vx) : w.cell? ⟨g, 4, none⟩ = some (.slice (some ⟨u, 0, none⟩) n n) := block_cell h.tb 4 _ rfl
theorem TreeR.c5 (h : TreeR w g u q vs vn vp vc n F G vx) : w.cell? ⟨g, 5, none⟩ = some (.slice (some ⟨q, 0, none⟩) n n) := block_cell h.tb 5 _ rfl
theorem TreeR.c6 (h : TreeR w g u q vs vn vp vc n F G vx) : w.cell? ⟨g, 6, none⟩ = some vx := block_cell h.tb 6 _ rfl
theorem TreeR.low {B : Nat} (h1 : g < B) (h2 : u < B) (h3 : q < B) : Low B (fun W => TreeR W g u q vs vn vp vc n F G vx) := fun _ _ h x => h.kept (x.block g h1) (x.block u h2) (x.block q h3)
theorem TreeR.gne (h : TreeR w g u q vs vn vp vc n F G vx) {t : Nat} {cs : Array Value} {e : TypeId} {z : Nat × Nat} (hb : w.heap[t]? = some (.cells cs e z)) (h1 : 71 ≠ e) (h2 : 35 ≠ e) (h3 : 41 ≠ e) : g ≠ t ∧ u ≠ t ∧ q ≠ t := by
  refine ⟨fun e' => ?_, h.up.ne_block hb h2, h.pr.ne_block hb h3⟩
  have h5 := h.tb
  rw [e', hb] at h5
  cases h5
  exact h1 rfl
/-- A step is stored. -/
theorem TreeR.putUp (h : TreeR w g u q vs vn vp vc n F G vx) (k : Nat) (hk : k < n) (p : St) : TreeR (w.setCells u (k * 3) (encSt p)) g u q vs vn vp vc n (fun i => if i = k then p else F i) G vx := by
  obtain ⟨n1, n2, n3⟩ := h.ne
  have kb := kb_sets u (encSt p) w (k * 3)
  refine ⟨kb.at h.tb (Ne.symm n1), ?_, h.pr.kb kb (Ne.symm n3)⟩
  have := h.up.put (sz := 3) (fun _ _ => rfl) p rfl k (by rw [rgL_len]; exact hk)
  rwa [rgL_set] at this
/-- A product is stored. -/
theorem TreeR.putPr (h : TreeR w g u q vs vn vp vc n F G vx) (k : Nat) (hk : k < n) (x : V6) : TreeR (w.setCells q (k * 6) (V6.list x)) g u q vs vn vp vc n F (fun i => if i = k then x else G i) vx := by
  obtain ⟨n1, n2, n3⟩ := h.ne
  have kb := kb_sets q (V6.list x) w (k * 6)
  refine ⟨kb.at h.tb (Ne.symm n2), h.up.kb kb n3, ?_⟩
  have := h.pr.put (sz := 6) (fun _ _ => rfl) x rfl k (by rw [rgL_len]; exact hk)
  rwa [rgL_set] at this
theorem TreeR.upEx (h : TreeR w g u q vs vn vp vc n F G vx) (k : Nat) (hk : k < n) : (∃ y0 y1 y2, w.cell? ⟨u, k * 3, none⟩ = some y0 ∧ w.cell? ⟨u, k * 3 + 1, none⟩ = some y1 ∧ w.cell? ⟨u, k * 3 + 2, none⟩ = some y2) ∧ ∀ j, w.frozen? ⟨u, j, none⟩ = false := by
  have hk' : k < (rgL F n).length := by rw [rgL_len]; exact hk
  obtain ⟨y0, e0⟩ := h.up.ex0 (sz := 3) (fun _ _ => rfl) k hk' (by omega)
  obtain ⟨y1, e1⟩ := h.up.ex (sz := 3) (fun _ _ => rfl) k 1 hk' (by omega)
  obtain ⟨y2, e2⟩ := h.up.ex (sz := 3) (fun _ _ => rfl) k 2 hk' (by omega)
  exact ⟨⟨y0, y1, y2, e0, e1, e2⟩, h.up.free⟩
theorem TreeR.upC (h : TreeR w g u q vs vn vp vc n F G vx) (k : Nat) (hk : k < n) : w.cell? ⟨u, k * 3, none⟩ = some (.int .i64 (F k).a) ∧ w.cell? ⟨u, k * 3 + 1, none⟩ = some (.int .i64 (F k).b) ∧ w.cell? ⟨u, k * 3 + 2, none⟩ = some (.int .i64 (F k).k) := by
  have hk' : k < (rgL F n).length := by rw [rgL_len]; exact hk
  have e0 := h.up.cell (sz := 3) (fun _ _ => rfl) k 0 hk' (by omega)
  have e1 := h.up.cell (sz := 3) (fun _ _ => rfl) k 1 hk' (by omega)
  have e2 := h.up.cell (sz := 3) (fun _ _ => rfl) k 2 hk' (by omega)
  rw [rgL_get] at e0 e1 e2
  exact ⟨e0, e1, e2⟩
theorem TreeR.prC (h : TreeR w g u q vs vn vp vc n F G vx) (k : Nat) (hk : k < n) : (w.cell? ⟨q, k * 6, none⟩ = some (.int .i64 (G k).a) ∧ w.cell? ⟨q, k * 6 + 1, none⟩ = some (.int .i64 (G k).b) ∧ w.cell? ⟨q, k * 6 + 2, none⟩ = some (.int .i64 (G k).c) ∧ w.cell? ⟨q, k * 6 + 3, none⟩ = some (.int .i64 (G k).d) ∧ w.cell? ⟨q, k * 6 + 4, none⟩ = some (.int .i64 (G k).e) ∧ w.cell? ⟨q, k * 6 + 5, none⟩ = some (.int .i64 (G k).f)) ∧ ∀ j, w.frozen? ⟨q, j, none⟩ = false := by
  have hk' : k < (rgL G n).length := by rw [rgL_len]; exact hk
  have e0 := h.pr.cell (sz := 6) (fun _ _ => rfl) k 0 hk' (by omega)
  have e1 := h.pr.cell (sz := 6) (fun _ _ => rfl) k 1 hk' (by omega)
  have e2 := h.pr.cell (sz := 6) (fun _ _ => rfl) k 2 hk' (by omega)
  have e3 := h.pr.cell (sz := 6) (fun _ _ => rfl) k 3 hk' (by omega)
  have e4 := h.pr.cell (sz := 6) (fun _ _ => rfl) k 4 hk' (by omega)
  have e5 := h.pr.cell (sz := 6) (fun _ _ => rfl) k 5 hk' (by omega)
  rw [rgL_get] at e0 e1 e2 e3 e4 e5
  exact ⟨⟨e0, e1, e2, e3, e4, e5⟩, h.pr.free⟩
theorem TreeR.congr (h : TreeR w g u q vs vn vp vc n F G vx) {F' : Nat → St} {G' : Nat → V6} (hF : ∀ i, i < n → F' i = F i) (hG : ∀ i, i < n → G' i = G i) : TreeR w g u q vs vn vp vc n F' G' vx :=
  ⟨h.tb, by rw [rgL_congr hF]; exact h.up, by rw [rgL_congr hG]; exact h.pr⟩
end
end Go.Proofs.YtdpegkkbhanjkaaDoor
